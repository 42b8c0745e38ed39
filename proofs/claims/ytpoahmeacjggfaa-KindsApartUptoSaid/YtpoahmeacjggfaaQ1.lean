/- Part 1 of the proof: rules, plain laws and walks, merged out of smaller texts. -/
import Derived.Below
import Derived.Carry
import Derived.ChangeOld
import Derived.ChangeSame
import Derived.Deep.AppendSrc
import Derived.Deep.Slices
import Derived.Great.FillDense
import Derived.JoinedCond
import Derived.Lib.Bytealg
import Derived.Lib.Walk
import Derived.Maps.Own
import Derived.OpenShut
import Derived.OrdersHeld
import Derived.ProofKit
import Derived.RangeFuncLeaves
import Derived.RangeFuncWrites
import Derived.ShutString
import Derived.SizedLaws
import Derived.WalkKit
import Derived.Test.YtpoahmeacjggfaaProg
import Derived.Test.YtpoahmeacjggfaaRows
namespace Rw
open Go Go.RowKit
/-! ## Slots and their values -/
abbrev Env := List (Nat × Value)
def Env.get : Env → Nat → Option Value
  | [], _ => none
  | (k, v) :: r, n => bif Nat.beq k n then some v else Env.get r n
theorem Env.get_cons (k : Nat) (v : Value) (r : Env) (n : Nat) : Env.get ((k, v) :: r) n = if k = n then some v else Env.get r n := by
  by_cases h : k = n
  · subst h; simp [Env.get]
  · have : Nat.beq k n = false := by
      cases hb : Nat.beq k n
      · rfl
      · exact absurd (Nat.eq_of_beq_eq_true hb) h
    simp [Env.get, h, this]
def Env.ev (G : Env) : Operand → Option Value
  | .tmp t => Env.get G t
  | .const v => some v
  | .global g => some (.pointer (some ⟨g, 0, none⟩))
  | .func f => some (.func (.func f) #[] #[])
def Env.evs (G : Env) : List Operand → Option (List Value)
  | [] => some []
  | x :: r => match Env.ev G x with
    | some v => match Env.evs G r with
      | some vs => some (v :: vs)
      | none => none
    | none => none
/-- The frame holds what the list says. -/
structure Models (n : Nat) (a : Act) (G : Env) : Prop where
  size : a.tmps.size = n
  defers : a.defers = []
  val : ∀ k v, Env.get G k = some v → a.tmps[k]? = some v
theorem Models.ev {n : Nat} {a : Act} {G : Env} (h : Models n a G) {x : Operand} {v : Value} (hx : Env.ev G x = some v) : a.eval x = v := by
  cases x with
  | tmp t => have := h.val t v hx; simp [Act.eval, Array.getD_eq_getD_getElem?, this]
  | const u => simpa [Env.ev, Act.eval] using hx
  | global g => simpa [Env.ev, Act.eval] using hx
  | func f => simpa [Env.ev, Act.eval] using hx
theorem Models.evs {n : Nat} {a : Act} {G : Env} (h : Models n a G) : ∀ {l : List Operand} {vs : List Value}, Env.evs G l = some vs → l.map a.eval = vs
  | [], vs, hx => by simp [Env.evs] at hx; simp [hx]
  | x :: r, vs, hx => by
    simp only [Env.evs] at hx
    split at hx
    · rename_i v hv
      split at hx
      · rename_i us hus
        simp at hx
        subst hx
        simp [h.ev hv, h.evs hus]
      · cases hx
    · cases hx
theorem Models.put {n : Nat} {a : Act} {G : Env} (h : Models n a G) {d : Nat} (hd : Nat.blt d n = true) (v : Value) : Models n (a.put (some d) v) ((d, v) :: G) := by
  have hd' : d < n := Nat.le_of_ble_eq_true hd
  refine ⟨by simp [Act.put, h.size], by simp [Act.put, h.defers], fun k u hu => ?_⟩
  rw [Env.get_cons] at hu
  by_cases hk : d = k
  · subst hk
    simp at hu
    subst hu
    simp [Act.put, h.size, hd']
  · rw [if_neg hk] at hu
    simp [Act.put, Array.getElem?_setIfInBounds_ne hk, h.val k u hu]
theorem Models.put_none {n : Nat} {a : Act} {G : Env} (h : Models n a G) (v : Value) : Models n (a.put none v) G := h
/-- What one list says follows from what another says. -/
def Sub (G G' : Env) : Prop := ∀ k v, Env.get G' k = some v → Env.get G k = some v
theorem Models.sub {n : Nat} {a : Act} {G G' : Env} (h : Models n a G) (hs : Sub G G') : Models n a G' :=
  ⟨h.size, h.defers, fun k v hv => h.val k v (hs k v hv)⟩
theorem Models.write {n : Nat} {a : Act} {G : Env} (h : Models n a G) {t : Nat} {u : Value} (hu : Env.get G t = some u) : Models n a ((t, u) :: G) := by
  refine ⟨h.size, h.defers, fun k v hv => ?_⟩
  rw [Env.get_cons] at hv
  by_cases hk : t = k
  · subst hk; simp at hv; subst hv; exact h.val t _ hu
  · rw [if_neg hk] at hv; exact h.val k v hv
/-- Entry by entry. -/
def SubL (G : Env) : Env → Prop
  | [] => True
  | (k, v) :: r => Env.get G k = some v ∧ SubL G r
theorem Sub.of : ∀ {G' G : Env}, SubL G G' → Sub G G'
  | [], G, _ => fun k v h => by simp [Env.get] at h
  | (j, u) :: r, G, h => fun k v hv => by
    rw [Env.get_cons] at hv
    by_cases hj : j = k
    · subst hj; simp at hv; subst hv; exact h.1
    · rw [if_neg hj] at hv; exact Sub.of h.2 k v hv
theorem s1 {G : Env} {k1 : Nat} {v1 : Value} (h1 : Env.get G k1 = some v1) : SubL G [(k1, v1)] := ⟨h1, trivial⟩
theorem s2 {G : Env} {k1 : Nat} {v1 : Value} {k2 : Nat} {v2 : Value} (h1 : Env.get G k1 = some v1) (h2 : Env.get G k2 = some v2) : SubL G [(k1, v1), (k2, v2)] := ⟨h1, h2, trivial⟩
theorem s3 {G : Env} {k1 : Nat} {v1 : Value} {k2 : Nat} {v2 : Value} {k3 : Nat} {v3 : Value} (h1 : Env.get G k1 = some v1) (h2 : Env.get G k2 = some v2) (h3 : Env.get G k3 = some v3) : SubL G [(k1, v1), (k2, v2), (k3, v3)] := ⟨h1, h2, h3, trivial⟩
theorem s4 {G : Env} {k1 : Nat} {v1 : Value} {k2 : Nat} {v2 : Value} {k3 : Nat} {v3 : Value} {k4 : Nat} {v4 : Value} (h1 : Env.get G k1 = some v1) (h2 : Env.get G k2 = some v2) (h3 : Env.get G k3 = some v3) (h4 : Env.get G k4 = some v4) : SubL G [(k1, v1), (k2, v2), (k3, v3), (k4, v4)] := ⟨h1, h2, h3, h4, trivial⟩
theorem s5 {G : Env} {k1 : Nat} {v1 : Value} {k2 : Nat} {v2 : Value} {k3 : Nat} {v3 : Value} {k4 : Nat} {v4 : Value} {k5 : Nat} {v5 : Value} (h1 : Env.get G k1 = some v1) (h2 : Env.get G k2 = some v2) (h3 : Env.get G k3 = some v3) (h4 : Env.get G k4 = some v4) (h5 : Env.get G k5 = some v5) : SubL G [(k1, v1), (k2, v2), (k3, v3), (k4, v4), (k5, v5)] := ⟨h1, h2, h3, h4, h5, trivial⟩
theorem s6 {G : Env} {k1 : Nat} {v1 : Value} {k2 : Nat} {v2 : Value} {k3 : Nat} {v3 : Value} {k4 : Nat} {v4 : Value} {k5 : Nat} {v5 : Value} {k6 : Nat} {v6 : Value} (h1 : Env.get G k1 = some v1) (h2 : Env.get G k2 = some v2) (h3 : Env.get G k3 = some v3) (h4 : Env.get G k4 = some v4) (h5 : Env.get G k5 = some v5) (h6 : Env.get G k6 = some v6) : SubL G [(k1, v1), (k2, v2), (k3, v3), (k4, v4), (k5, v5), (k6, v6)] := ⟨h1, h2, h3, h4, h5, h6, trivial⟩
theorem s7 {G : Env} {k1 : Nat} {v1 : Value} {k2 : Nat} {v2 : Value} {k3 : Nat} {v3 : Value} {k4 : Nat} {v4 : Value} {k5 : Nat} {v5 : Value} {k6 : Nat} {v6 : Value} {k7 : Nat} {v7 : Value} (h1 : Env.get G k1 = some v1) (h2 : Env.get G k2 = some v2) (h3 : Env.get G k3 = some v3) (h4 : Env.get G k4 = some v4) (h5 : Env.get G k5 = some v5) (h6 : Env.get G k6 = some v6) (h7 : Env.get G k7 = some v7) : SubL G [(k1, v1), (k2, v2), (k3, v3), (k4, v4), (k5, v5), (k6, v6), (k7, v7)] := ⟨h1, h2, h3, h4, h5, h6, h7, trivial⟩
theorem s8 {G : Env} {k1 : Nat} {v1 : Value} {k2 : Nat} {v2 : Value} {k3 : Nat} {v3 : Value} {k4 : Nat} {v4 : Value} {k5 : Nat} {v5 : Value} {k6 : Nat} {v6 : Value} {k7 : Nat} {v7 : Value} {k8 : Nat} {v8 : Value} (h1 : Env.get G k1 = some v1) (h2 : Env.get G k2 = some v2) (h3 : Env.get G k3 = some v3) (h4 : Env.get G k4 = some v4) (h5 : Env.get G k5 = some v5) (h6 : Env.get G k6 = some v6) (h7 : Env.get G k7 = some v7) (h8 : Env.get G k8 = some v8) : SubL G [(k1, v1), (k2, v2), (k3, v3), (k4, v4), (k5, v5), (k6, v6), (k7, v7), (k8, v8)] := ⟨h1, h2, h3, h4, h5, h6, h7, h8, trivial⟩
theorem s9 {G : Env} {k1 : Nat} {v1 : Value} {k2 : Nat} {v2 : Value} {k3 : Nat} {v3 : Value} {k4 : Nat} {v4 : Value} {k5 : Nat} {v5 : Value} {k6 : Nat} {v6 : Value} {k7 : Nat} {v7 : Value} {k8 : Nat} {v8 : Value} {k9 : Nat} {v9 : Value} (h1 : Env.get G k1 = some v1) (h2 : Env.get G k2 = some v2) (h3 : Env.get G k3 = some v3) (h4 : Env.get G k4 = some v4) (h5 : Env.get G k5 = some v5) (h6 : Env.get G k6 = some v6) (h7 : Env.get G k7 = some v7) (h8 : Env.get G k8 = some v8) (h9 : Env.get G k9 = some v9) : SubL G [(k1, v1), (k2, v2), (k3, v3), (k4, v4), (k5, v5), (k6, v6), (k7, v7), (k8, v8), (k9, v9)] := ⟨h1, h2, h3, h4, h5, h6, h7, h8, h9, trivial⟩
theorem s10 {G : Env} {k1 : Nat} {v1 : Value} {k2 : Nat} {v2 : Value} {k3 : Nat} {v3 : Value} {k4 : Nat} {v4 : Value} {k5 : Nat} {v5 : Value} {k6 : Nat} {v6 : Value} {k7 : Nat} {v7 : Value} {k8 : Nat} {v8 : Value} {k9 : Nat} {v9 : Value} {k10 : Nat} {v10 : Value} (h1 : Env.get G k1 = some v1) (h2 : Env.get G k2 = some v2) (h3 : Env.get G k3 = some v3) (h4 : Env.get G k4 = some v4) (h5 : Env.get G k5 = some v5) (h6 : Env.get G k6 = some v6) (h7 : Env.get G k7 = some v7) (h8 : Env.get G k8 = some v8) (h9 : Env.get G k9 = some v9) (h10 : Env.get G k10 = some v10) : SubL G [(k1, v1), (k2, v2), (k3, v3), (k4, v4), (k5, v5), (k6, v6), (k7, v7), (k8, v8), (k9, v9), (k10, v10)] := ⟨h1, h2, h3, h4, h5, h6, h7, h8, h9, h10, trivial⟩
/-! ## The judgements -/
section
variable (P : Program) (n : Nat)
/-- One operation: whatever frame the list describes, it runs to a frame and a world that K describes. -/
def OW (ops : Array Oper) (Q : Exit → Act → World → Prop) (G : Env) (w : World) (o : Oper) (K : Env → World → Prop) : Prop :=
  ∀ a, Models n a G → ∀ K' : Act → World → Prop, (∀ G' w', K G' w' → ∀ a', Models n a' G' → K' a' w') →
    if Region.wanted o (yielded ops a.tmps) then o.wp P a w K' Q else K' (a.put o.dst undef) w
def WL (ops : Array Oper) (Q : Exit → Act → World → Prop) (G : Env) (w : World) (l : List Oper) : Prop :=
  ∀ a, Models n a G → wpList P ops Q l a w
def WC (Q : Exit → Act → World → Prop) (G : Env) (w : World) (c : Code) : Prop := ∀ a, Models n a G → c.wp P Q a w
def WX (Q : Exit → Act → World → Prop) (G : Env) (w : World) (e : Exit) : Prop := ∀ a, Models n a G → Q e a w
end
section
variable {P : Program} {n : Nat} {ops : Array Oper} {Q : Exit → Act → World → Prop} {G : Env} {w : World} {l : List Oper} {o : Oper}
theorem lC (h : OW P n ops Q G w o (fun G' w' => WL P n ops Q G' w' l)) : WL P n ops Q G w (o :: l) := by
  intro a ha
  have := h a ha (wpList P ops Q l) (fun G' w' hk a' ha' => hk a' ha')
  unfold wpList
  split
  · rename_i hw; rw [if_pos hw] at this; exact .inl this
  · rename_i hw; rw [if_neg hw] at this; exact this
theorem lN (h : WX n Q G w .normal) : WL P n ops Q G w [] := fun a ha => h a ha
/-! ## Code -/
theorem cG {id : Nat} (h : WL P n l.toArray Q G w l) : WC P n Q G w (.region id l.toArray false) :=
  fun a ha => wp_region_lit (h a ha)
theorem cS {x y : Code} (h : WC P n (Exit.then (y.wp P Q) Q) G w x) : WC P n Q G w (.seq x y) := fun a ha => wp_seq (h a ha)
theorem cB {id : Nat} {c : Code} (h : WC P n (Exit.inBlock id Q) G w c) : WC P n Q G w (.block id c) := fun a ha => wp_block (h a ha)
theorem cK (h : WX n Q G w .normal) : WC P n Q G w .skip := fun a ha => wp_skip (h a ha)
theorem c_exit {id : Nat} (h : WX n Q G w (.exit id)) : WC P n Q G w (.exit id) := fun a ha => wp_exit (h a ha)
theorem cR (h : WX n Q G w .ret) : WC P n Q G w .ret := fun a ha => wp_ret (h a ha)
theorem c_if {c : Operand} {x y : Code} (b : Bool) (hc : Env.ev G c = some (.bool b)) (ht : b = true → WC P n Q G w x) (hf : b = false → WC P n Q G w y) : WC P n Q G w (.cond c x y) :=
  fun a ha => wp_cond_split (ha.ev hc) (fun h => ht h a ha) (fun h => hf h a ha)
theorem cI {c : Operand} {x y : Code} (hc : Env.ev G c = some (.bool true)) (h : WC P n Q G w x) : WC P n Q G w (.cond c x y) :=
  fun a ha => wp_cond_true (ha.ev hc) (h a ha)
theorem c_ifF {c : Operand} {x y : Code} (hc : Env.ev G c = some (.bool false)) (h : WC P n Q G w y) : WC P n Q G w (.cond c x y) :=
  fun a ha => wp_cond_false (ha.ev hc) (h a ha)
theorem cP {c : Operand} {x y : Code} (p : Prop) [Decidable p] (hc : Env.ev G c = some (.bool (decide p))) (ht : p → WC P n Q G w x) (hf : ¬ p → WC P n Q G w y) : WC P n Q G w (.cond c x y) :=
  c_if _ hc (fun h => ht (of_decide_eq_true h)) (fun h => hf (of_decide_eq_false h))
theorem c_ifN {c : Operand} {x y : Code} (p : Prop) [Decidable p] (hc : Env.ev G c = some (.bool (!decide p))) (ht : ¬ p → WC P n Q G w x) (hf : p → WC P n Q G w y) : WC P n Q G w (.cond c x y) :=
  c_if _ hc (fun h => ht (by simpa using h)) (fun h => hf (by simpa using h))
theorem c_ifB {c : Operand} {x y : Code} (b : Bool) (hc : Env.ev G c = some (.bool (!b))) (ht : b = false → WC P n Q G w x) (hf : b = true → WC P n Q G w y) : WC P n Q G w (.cond c x y) :=
  c_if _ hc (fun h => ht (by simpa using h)) (fun h => hf (by simpa using h))
theorem l_split (t : Nat) (b : Bool) (hc : Env.get G t = some (.bool b)) (ht : b = true → WL P n ops Q ((t, .bool true) :: G) w l) (hf : b = false → WL P n ops Q ((t, .bool false) :: G) w l) : WL P n ops Q G w l := by
  intro a ha
  have hm : ∀ b', b = b' → Models n a ((t, .bool b') :: G) := by
    intro b' hb
    subst hb
    refine ⟨ha.size, ha.defers, fun k v hv => ?_⟩
    rw [Env.get_cons] at hv
    by_cases hk : t = k
    · subst hk; simp at hv; subst hv; exact ha.val t _ hc
    · rw [if_neg hk] at hv; exact ha.val k v hv
  cases hb : b with
  | true => exact ht hb a (hm _ hb)
  | false => exact hf hb a (hm _ hb)
theorem lS (t : Nat) (p : Prop) [Decidable p] (hc : Env.get G t = some (.bool (decide p))) (ht : p → WL P n ops Q ((t, .bool true) :: G) w l) (hf : ¬ p → WL P n ops Q ((t, .bool false) :: G) w l) : WL P n ops Q G w l :=
  l_split t _ hc (fun h => ht (of_decide_eq_true h)) (fun h => hf (of_decide_eq_false h))
theorem l_splitN (t : Nat) (p : Prop) [Decidable p] (hc : Env.get G t = some (.bool (!decide p))) (ht : ¬ p → WL P n ops Q ((t, .bool true) :: G) w l) (hf : p → WL P n ops Q ((t, .bool false) :: G) w l) : WL P n ops Q G w l :=
  l_split t _ hc (fun h => ht (by simpa using h)) (fun h => hf (by simpa using h))
theorem l_splitB (t : Nat) (b : Bool) (hc : Env.get G t = some (.bool (!b))) (ht : b = false → WL P n ops Q ((t, .bool true) :: G) w l) (hf : b = true → WL P n ops Q ((t, .bool false) :: G) w l) : WL P n ops Q G w l :=
  l_split t _ hc (fun h => ht (by simpa using h)) (fun h => hf (by simpa using h))
theorem q0 {id : Nat} {y : Code} (h : WL P n l.toArray (Exit.then (y.wp P Q) Q) G w l) : WC P n Q G w (.seq (.region id l.toArray false) y) := cS (cG h)
theorem q1 {y : Code} (h : WC P n Q G w y) : WL P n ops (Exit.then (y.wp P Q) Q) G w [] := lN h
theorem q2 {id : Nat} (h : WX n Q G w .normal) : WL P n ops (Exit.inBlock id Q) G w [] := lN h
/-! ## Ways out -/
theorem xS {y : Code} (h : WC P n Q G w y) : WX n (Exit.then (y.wp P Q) Q) G w .normal := h
theorem xE {K : Act → World → Prop} {i : Nat} (h : WX n Q G w (.exit i)) : WX n (Exit.then K Q) G w (.exit i) := h
theorem xR {K : Act → World → Prop} (h : WX n Q G w .ret) : WX n (Exit.then K Q) G w .ret := h
theorem x_blk {id : Nat} (h : WX n Q G w .normal) : WX n (Exit.inBlock id Q) G w .normal := h
theorem x_blkE {id : Nat} (h : WX n Q G w .normal) : WX n (Exit.inBlock id Q) G w (.exit id) := fun a ha => by simpa [Exit.inBlock] using h a ha
theorem xB {id : Nat} (h : WX n Q G w .ret) : WX n (Exit.inBlock id Q) G w .ret := h
/-! ## A loop -/
theorem c_loop {c : Code} {X : Type} (E : X → Env) (R : X → World → Prop) (mu : X → Nat) (x0 : X) (h0 : SubL G (E x0)) (hR : R x0 w)
    (round : ∀ x w, R x w → WC P n (Exit.then (fun a' w' => ∃ x', Models n a' (E x') ∧ R x' w' ∧ mu x' < mu x) Q) (E x) w c) : WC P n Q G w (.loop c) := by
  intro a ha b k cs
  have key : ∀ m x, mu x = m → ∀ a w, Models n a (E x) → R x w →
      ∃ e a' w', Q e a' w' ∧ Arrives P (lone (b.at a (.code c :: .inLoop c :: k)) cs w) b k cs e a' w' := by
    intro m
    induction m using Nat.strongRecOn with
    | _ m ih =>
      intro x hx a w hm hr
      obtain ⟨e, a₁, w₁, hq, harr⟩ := round x w hr a hm b (.inLoop c :: k) cs
      cases e with
      | normal =>
        obtain ⟨x', hm', hr', hlt⟩ := hq
        obtain ⟨e₂, a₂, w₂, hq₂, harr₂⟩ := ih (mu x') (hx ▸ hlt) x' rfl a₁ w₁ hm' hr'
        exact ⟨e₂, a₂, w₂, hq₂, .of_steps (Steps.trans harr (.one step_inLoop)) harr₂⟩
      | exit id => exact ⟨_, a₁, w₁, hq, .pass (x := .inLoop c) rfl (fun _ _ => .inl (by simp)) harr⟩
      | goto l => exact ⟨_, a₁, w₁, hq, .pass (x := .inLoop c) rfl (fun _ _ => .inl (by simp)) harr⟩
      | ret => exact ⟨_, a₁, w₁, hq, .pass (x := .inLoop c) rfl (fun _ _ => .inl (by simp)) harr⟩
      | panic ch => exact ⟨_, a₁, w₁, hq, .pass (x := .inLoop c) rfl (fun _ _ => .inl (by simp)) harr⟩
      | outgrown => exact ⟨_, a₁, w₁, hq, .pass (x := .inLoop c) rfl (fun _ _ => .inl (by simp)) harr⟩
  obtain ⟨e, a', w', hq, harr⟩ := key _ x0 rfl a w (ha.sub (Sub.of h0)) hR
  exact ⟨e, a', w', hq, .of_steps (.one step_loop) harr⟩
theorem x_round {X : Type} {E : X → Env} {R : X → World → Prop} {m : X → Nat} {b : Nat} (x' : X) (hs : SubL G (E x')) (hR : R x' w) (hm : m x' < b) :
    WX n (Exit.then (fun a' w' => ∃ x', Models n a' (E x') ∧ R x' w' ∧ m x' < b) Q) G w .normal :=
  fun _ ha => ⟨x', ha.sub (Sub.of hs), hR, hm⟩
theorem c_cut {x y : Code} {X : Type} (E : X → Env) (R : X → World → Prop)
    (h1 : WC P n (Exit.then (fun a' w' => ∃ x', Models n a' (E x') ∧ R x' w') Q) G w x) (h2 : ∀ x' w', R x' w' → WC P n Q (E x') w' y) : WC P n Q G w (.seq x y) :=
  fun a ha => wp_seq (wp_mono (h1 a ha) (fun e a' w' hq => by
    cases e <;> first | exact hq | (obtain ⟨x', hm, hr⟩ := hq; exact h2 x' w' hr a' hm)))
theorem x_cut {X : Type} {E : X → Env} {R : X → World → Prop} (x' : X) (hs : SubL G (E x')) (hR : R x' w) :
    WX n (Exit.then (fun a' w' => ∃ x', Models n a' (E x') ∧ R x' w') Q) G w .normal :=
  fun _ ha => ⟨x', ha.sub (Sub.of hs), hR⟩
theorem c_loop2 {c : Code} {X Y : Type} (E : X → Y → Env) (R : X → Y → World → Prop) (mu : X → Y → Nat) (x0 : X) (y0 : Y) (h0 : SubL G (E x0 y0)) (hR : R x0 y0 w)
    (round : ∀ x y w, R x y w → WC P n (Exit.then (fun a' w' => ∃ x' y', Models n a' (E x' y') ∧ R x' y' w' ∧ mu x' y' < mu x y) Q) (E x y) w c) : WC P n Q G w (.loop c) :=
  c_loop (X := X × Y) (fun q => E q.1 q.2) (fun q => R q.1 q.2) (fun q => mu q.1 q.2) (x0, y0) h0 hR
    (fun q w hr a ha => wp_mono (round q.1 q.2 w hr a ha) (fun e a' w' h => by
      cases e <;> first | exact h | (obtain ⟨x', y', h1, h2, h3⟩ := h; exact ⟨(x', y'), h1, h2, h3⟩)))
theorem xN {X Y : Type} {E : X → Y → Env} {R : X → Y → World → Prop} {m : X → Y → Nat} {b : Nat} (x' : X) (y' : Y) (hs : SubL G (E x' y')) (hR : R x' y' w) (hm : m x' y' < b) :
    WX n (Exit.then (fun a' w' => ∃ x' y', Models n a' (E x' y') ∧ R x' y' w' ∧ m x' y' < b) Q) G w .normal :=
  fun _ ha => ⟨x', y', ha.sub (Sub.of hs), hR, hm⟩
theorem c_cut2 {c d : Code} {X Y : Type} (E : X → Y → Env) (R : X → Y → World → Prop)
    (h1 : WC P n (Exit.then (fun a' w' => ∃ x' y', Models n a' (E x' y') ∧ R x' y' w') Q) G w c) (h2 : ∀ x y w', R x y w' → WC P n Q (E x y) w' d) : WC P n Q G w (.seq c d) :=
  fun a ha => wp_seq (wp_mono (h1 a ha) (fun e a' w' hq => by
    cases e <;> first | exact hq | (obtain ⟨x', y', hm, hr⟩ := hq; exact h2 x' y' w' hr a' hm)))
theorem x_cut2 {X Y : Type} {E : X → Y → Env} {R : X → Y → World → Prop} (x' : X) (y' : Y) (hs : SubL G (E x' y')) (hR : R x' y' w) :
    WX n (Exit.then (fun a' w' => ∃ x' y', Models n a' (E x' y') ∧ R x' y' w') Q) G w .normal :=
  fun _ ha => ⟨x', y', ha.sub (Sub.of hs), hR⟩
theorem c_loop3 {c : Code} {X Y Z : Type} (E : X → Y → Z → Env) (R : X → Y → Z → World → Prop) (mu : X → Y → Z → Nat) (x0 : X) (y0 : Y) (z0 : Z) (h0 : SubL G (E x0 y0 z0)) (hR : R x0 y0 z0 w)
    (round : ∀ x y z w, R x y z w → WC P n (Exit.then (fun a' w' => ∃ x' y' z', Models n a' (E x' y' z') ∧ R x' y' z' w' ∧ mu x' y' z' < mu x y z) Q) (E x y z) w c) : WC P n Q G w (.loop c) :=
  c_loop (X := X × Y × Z) (fun q => E q.1 q.2.1 q.2.2) (fun q => R q.1 q.2.1 q.2.2) (fun q => mu q.1 q.2.1 q.2.2) (x0, y0, z0) h0 hR
    (fun q w hr a ha => wp_mono (round q.1 q.2.1 q.2.2 w hr a ha) (fun e a' w' h => by
      cases e <;> first | exact h | (obtain ⟨x', y', z', h1, h2, h3⟩ := h; exact ⟨(x', y', z'), h1, h2, h3⟩)))
theorem x_round3 {X Y Z : Type} {E : X → Y → Z → Env} {R : X → Y → Z → World → Prop} {m : X → Y → Z → Nat} {b : Nat} (x' : X) (y' : Y) (z' : Z) (hs : SubL G (E x' y' z')) (hR : R x' y' z' w) (hm : m x' y' z' < b) :
    WX n (Exit.then (fun a' w' => ∃ x' y' z', Models n a' (E x' y' z') ∧ R x' y' z' w' ∧ m x' y' z' < b) Q) G w .normal :=
  fun _ ha => ⟨x', y', z', ha.sub (Sub.of hs), hR, hm⟩
theorem c_cut3 {c d : Code} {X Y Z : Type} (E : X → Y → Z → Env) (R : X → Y → Z → World → Prop)
    (h1 : WC P n (Exit.then (fun a' w' => ∃ x' y' z', Models n a' (E x' y' z') ∧ R x' y' z' w') Q) G w c) (h2 : ∀ x y z w', R x y z w' → WC P n Q (E x y z) w' d) : WC P n Q G w (.seq c d) :=
  fun a ha => wp_seq (wp_mono (h1 a ha) (fun e a' w' hq => by
    cases e <;> first | exact hq | (obtain ⟨x', y', z', hm, hr⟩ := hq; exact h2 x' y' z' w' hr a' hm)))
theorem x_cut3 {X Y Z : Type} {E : X → Y → Z → Env} {R : X → Y → Z → World → Prop} (x' : X) (y' : Y) (z' : Z) (hs : SubL G (E x' y' z')) (hR : R x' y' z' w) :
    WX n (Exit.then (fun a' w' => ∃ x' y' z', Models n a' (E x' y' z') ∧ R x' y' z' w') Q) G w .normal :=
  fun _ ha => ⟨x', y', z', ha.sub (Sub.of hs), hR⟩
theorem c_loop4 {c : Code} {X Y Z U : Type} (E : X → Y → Z → U → Env) (R : X → Y → Z → U → World → Prop) (mu : X → Y → Z → U → Nat) (x0 : X) (y0 : Y) (z0 : Z) (u0 : U) (h0 : SubL G (E x0 y0 z0 u0)) (hR : R x0 y0 z0 u0 w)
    (round : ∀ x y z u w, R x y z u w → WC P n (Exit.then (fun a' w' => ∃ x' y' z' u', Models n a' (E x' y' z' u') ∧ R x' y' z' u' w' ∧ mu x' y' z' u' < mu x y z u) Q) (E x y z u) w c) : WC P n Q G w (.loop c) :=
  c_loop (X := X × Y × Z × U) (fun q => E q.1 q.2.1 q.2.2.1 q.2.2.2) (fun q => R q.1 q.2.1 q.2.2.1 q.2.2.2) (fun q => mu q.1 q.2.1 q.2.2.1 q.2.2.2) (x0, y0, z0, u0) h0 hR
    (fun q w hr a ha => wp_mono (round q.1 q.2.1 q.2.2.1 q.2.2.2 w hr a ha) (fun e a' w' h => by
      cases e <;> first | exact h | (obtain ⟨x', y', z', u', h1, h2, h3⟩ := h; exact ⟨(x', y', z', u'), h1, h2, h3⟩)))
theorem x_round4 {X Y Z U : Type} {E : X → Y → Z → U → Env} {R : X → Y → Z → U → World → Prop} {m : X → Y → Z → U → Nat} {b : Nat} (x' : X) (y' : Y) (z' : Z) (u' : U) (hs : SubL G (E x' y' z' u')) (hR : R x' y' z' u' w) (hm : m x' y' z' u' < b) :
    WX n (Exit.then (fun a' w' => ∃ x' y' z' u', Models n a' (E x' y' z' u') ∧ R x' y' z' u' w' ∧ m x' y' z' u' < b) Q) G w .normal :=
  fun _ ha => ⟨x', y', z', u', ha.sub (Sub.of hs), hR, hm⟩
theorem c_loop5 {c : Code} {X Y Z U V : Type} (E : X → Y → Z → U → V → Env) (R : X → Y → Z → U → V → World → Prop) (mu : X → Y → Z → U → V → Nat) (x0 : X) (y0 : Y) (z0 : Z) (u0 : U) (v0 : V) (h0 : SubL G (E x0 y0 z0 u0 v0)) (hR : R x0 y0 z0 u0 v0 w)
    (round : ∀ x y z u v w, R x y z u v w → WC P n (Exit.then (fun a' w' => ∃ x' y' z' u' v', Models n a' (E x' y' z' u' v') ∧ R x' y' z' u' v' w' ∧ mu x' y' z' u' v' < mu x y z u v) Q) (E x y z u v) w c) : WC P n Q G w (.loop c) :=
  c_loop (X := X × Y × Z × U × V) (fun q => E q.1 q.2.1 q.2.2.1 q.2.2.2.1 q.2.2.2.2) (fun q => R q.1 q.2.1 q.2.2.1 q.2.2.2.1 q.2.2.2.2) (fun q => mu q.1 q.2.1 q.2.2.1 q.2.2.2.1 q.2.2.2.2) (x0, y0, z0, u0, v0) h0 hR
    (fun q w hr a ha => wp_mono (round q.1 q.2.1 q.2.2.1 q.2.2.2.1 q.2.2.2.2 w hr a ha) (fun e a' w' h => by
      cases e <;> first | exact h | (obtain ⟨x', y', z', u', v', h1, h2, h3⟩ := h; exact ⟨(x', y', z', u', v'), h1, h2, h3⟩)))
theorem x_round5 {X Y Z U V : Type} {E : X → Y → Z → U → V → Env} {R : X → Y → Z → U → V → World → Prop} {m : X → Y → Z → U → V → Nat} {b : Nat} (x' : X) (y' : Y) (z' : Z) (u' : U) (v' : V) (hs : SubL G (E x' y' z' u' v')) (hR : R x' y' z' u' v' w) (hm : m x' y' z' u' v' < b) :
    WX n (Exit.then (fun a' w' => ∃ x' y' z' u' v', Models n a' (E x' y' z' u' v') ∧ R x' y' z' u' v' w' ∧ m x' y' z' u' v' < b) Q) G w .normal :=
  fun _ ha => ⟨x', y', z', u', v', ha.sub (Sub.of hs), hR, hm⟩
/-! ## A call's beginning and end -/
/-- It returns a value v, and v and the world behind are such. -/
def Ret (R : Value → World → Prop) : Ending → World → Prop
  | .returned v, w => R v w
  | _, _ => False
theorem Ret.mono {R R' : Value → World → Prop} (h : ∀ v w, R v w → R' v w) : ∀ e w, Ret R e w → Ret R' e w := fun e w hr => by
  cases e <;> first | exact h _ _ hr | exact hr.elim
def argEnv : Nat → List Value → Env
  | _, [] => []
  | k, v :: r => (k, v) :: argEnv (k + 1) r
theorem argEnv_get : ∀ (l : List Value) (j k : Nat) (v : Value), Env.get (argEnv j l) k = some v → j ≤ k ∧ l[k - j]? = some v
  | [], j, k, v, h => by simp [argEnv, Env.get] at h
  | u :: r, j, k, v, h => by
    rw [argEnv, Env.get_cons] at h
    by_cases hj : j = k
    · subst hj; simp at h; simp [h]
    · rw [if_neg hj] at h
      obtain ⟨h1, h2⟩ := argEnv_get r (j + 1) k v h
      refine ⟨by omega, ?_⟩
      rw [show k - j = (k - (j + 1)) + 1 by omega]
      simpa using h2
theorem cN {f : FuncId} {fn : Func} {c : Code} {args : Array Value} {R : Value → World → Prop} (hf : P.funcs[f]? = some fn) (hb : fn.body = some c) (hn : fn.ntmps = n) (hs : Nat.ble args.size n = true)
    (h : WC P n (bodyPost P fn (Ret R)) (argEnv 0 args.toList) w c) : Calls P f args w (Ret R) := by
  refine calls_of_wp hf hb (h _ ⟨?_, rfl, fun k v hv => ?_⟩)
  · have hs' : args.size ≤ n := by simpa using hs
    simp [hn]; omega
  · obtain ⟨_, h2⟩ := argEnv_get _ _ _ _ hv
    simp only [Nat.sub_zero, Array.getElem?_toList] at h2
    have hlt : k < args.size := (Array.getElem?_eq_some_iff.1 h2).1
    rw [Array.getElem?_append_left hlt]
    exact h2
theorem x1_ {fn : Func} {R : Value → World → Prop} {t : Nat} {v : Value} (hr : fn.results = #[.tmp t]) (hv : Env.get G t = some v) (h : R v w) : WX n (bodyPost P fn (Ret R)) G w .ret :=
  fun a ha => ⟨ha.defers, v, by simp [results, hr, Array.getD_eq_getD_getElem?, ha.val t v hv], h⟩
theorem x_ret0 {fn : Func} {R : Value → World → Prop} (hr : fn.results = #[]) (h : R (.tuple #[]) w) : WX n (bodyPost P fn (Ret R)) G w .ret :=
  fun a ha => ⟨ha.defers, _, by simp [results, hr], h⟩
theorem x_ret0n {fn : Func} {R : Value → World → Prop} (hr : fn.results = #[]) (h : R (.tuple #[]) w) : WX n (bodyPost P fn (Ret R)) G w .normal :=
  fun a ha => ⟨ha.defers, _, by simp [results, hr], h⟩
theorem x_ret2 {fn : Func} {R : Value → World → Prop} {t u : Nat} {v x : Value} (hr : fn.results = #[.tmp t, .tmp u]) (hv : Env.get G t = some v) (hx : Env.get G u = some x) (h : R (.tuple #[v, x]) w) : WX n (bodyPost P fn (Ret R)) G w .ret :=
  fun a ha => ⟨ha.defers, _, by simp [results, hr, Array.getD_eq_getD_getElem?, ha.val t v hv, ha.val u x hx], h⟩
/-- A function that has a body and is entered by a call. -/
structure FnOk (P : Program) (f : FuncId) : Prop where
  ok : ∃ fn c, P.funcs[f]? = some fn ∧ fn.name ≠ "runtime.NumGoroutine" ∧ fn.body = some c
theorem run_callFunc_ok {f : FuncId} (h : FnOk P f) (args : Array Value) (w : World) : (callFunc f args).run P w = .ok (.enter f args) w := by
  obtain ⟨fn, c, h1, h2, h3⟩ := h.ok
  simp [callFunc, h1, h2, h3]
end
theorem i3 {α β γ : Sort _} {p : α → β → γ → Prop} : ∀ (a : α) (b : β) (c : γ), p a b c → p a b c := fun _ _ _ h => h
theorem i4 {α β γ δ : Sort _} {p : α → β → γ → δ → Prop} : ∀ (a : α) (b : β) (c : γ) (d : δ), p a b c d → p a b c d := fun _ _ _ _ h => h
theorem gE {α : Type _} {l : List α} {i : Nat} (h : i < l.length) : l[i]? = some l[i] := List.getElem?_eq_getElem h
theorem gM {α : Type _} {l : List α} {n : Nat} (h : n < l.length) : l[n] ∈ l := List.getElem_mem h
theorem lT {a b c : Nat} (h : a < b) (k : b ≤ c) : a < c := Nat.lt_of_lt_of_le h k
theorem lR (n : Nat) : n ≤ n := Nat.le_refl n
theorem lQ {a b : Nat} (h : a = b) : a ≤ b := Nat.le_of_eq h
theorem dT {p : Prop} [Decidable p] (h : p) : decide p = true := decide_eq_true h
theorem dF {p : Prop} [Decidable p] (h : ¬ p) : decide p = false := decide_eq_false h
open Go Go.RowKit
/-! ## Worlds -/
abbrev Ext (w w' : World) : Prop := Below w.heap.size w w'
theorem ext_refl (w : World) : Ext w w := Below.refl _ _
theorem Ext.then {a b c : World} (h : Ext a b) (k : Ext b c) : Ext a c := Below.trans h (Below.mono k h.size)
theorem ext_drew (w : World) : Ext w w.drew := (Below.refl _ _).drew
theorem ext_alloc (w : World) (o : Obj) : Ext w (w.alloc o) := (Below.refl _ _).alloc (lR _) o
/-- Blocks that may be written: all are there. -/
def Low (M : Nat → Prop) (w : World) : Prop := ∀ b, M b → b < w.heap.size
theorem Low.Y {M : Nat → Prop} {w w' : World} (h : Low M w) (e : Ext w w') : Low M w' := fun b hb => lT (h b hb) e.size
def Add (M : Nat → Prop) (b : Nat) : Nat → Prop := fun x => M x ∨ x = b
theorem Low.add {M : Nat → Prop} {w : World} (h : Low M w) {b : Nat} (hb : b < w.heap.size) : Low (Add M b) w := fun x hx => by
  rcases hx with hx | rfl
  · exact h x hx
  · exact hb
def NoM : Nat → Prop := fun _ => False
theorem low_noM (w : World) : Low NoM w := fun _ h => h.elim
/-- Cells that lie in a block that nobody writes. -/
structure At (M : Nat → Prop) (w : World) (b off : Nat) (cs : List Value) : Prop where
  lt : b < w.heap.size
  nM : ¬ M b
  cell : ∀ j v, cs[j]? = some v → w.cell? ⟨b, off + j, none⟩ = some v
theorem At.Y {M : Nat → Prop} {w w' : World} {b off : Nat} {cs : List Value} (h : At M w b off cs) (e : Ext w w') : At M w' b off cs :=
  ⟨lT h.lt e.size, h.nM, fun j v hv => (e.cell (p := ⟨b, off + j, none⟩) h.lt).trans (h.cell j v hv)⟩
/-- Other blocks may have been written. -/
def Upd (M : Nat → Prop) (w w' : World) : Prop := w.heap.size ≤ w'.heap.size ∧ ∀ b, b < w.heap.size → ¬ M b → w'.heap[b]? = w.heap[b]?
theorem Ext.upd {w w' : World} (h : Ext w w') (M : Nat → Prop) : Upd M w w' := ⟨h.size, fun b hb _ => h.block b hb⟩
theorem At.upd {M : Nat → Prop} {w w' : World} {b off : Nat} {cs : List Value} (h : At M w b off cs) (e : Upd M w w') : At M w' b off cs :=
  ⟨lT h.lt e.1, h.nM, fun j v hv => (World.cell?_of_block (w := w) (a := ⟨b, off + j, none⟩) (e.2 b h.lt h.nM)).trans (h.cell j v hv)⟩
theorem At.wk {M M' : Nat → Prop} {w : World} {b off : Nat} {cs : List Value} (h : At M w b off cs) (e : ∀ x, x < w.heap.size → M' x → M x) : At M' w b off cs :=
  ⟨h.lt, fun hb => h.nM (e b h.lt hb), h.cell⟩
/-- A block of the call's own, all of it. -/
structure Box (w : World) (b : Nat) (T : Nat) (cs : List Value) : Prop where
  heap : w.heap[b]? = some (.cells cs.toArray T (0, 0))
theorem Box.lt {w : World} {b T : Nat} {cs : List Value} (h : Box w b T cs) : b < w.heap.size := (Array.getElem?_eq_some_iff.1 h.heap).1
theorem Box.cell {w : World} {b T : Nat} {cs : List Value} (h : Box w b T cs) (j : Nat) (v : Value) (hv : cs[j]? = some v) : w.cell? ⟨b, 0 + j, none⟩ = some v := by
  rw [Nat.zero_add, cell_of_row w b j _ _ _ h.heap]; simpa using hv
theorem Box.Y {w w' : World} {b T : Nat} {cs : List Value} (h : Box w b T cs) (e : Ext w w') : Box w' b T cs := ⟨(e.block b h.lt).trans h.heap⟩
theorem Box.at {M : Nat → Prop} {w : World} {b T : Nat} {cs : List Value} (h : Box w b T cs) (hb : ¬ M b) : At M w b 0 cs := ⟨h.lt, hb, fun j v hv => h.cell j v hv⟩
/-! ## The program's types, as a short table -/
inductive TD where
  | int (k : IntKind) | bool | str | sl (e : Nat) | ptr (e : Nat) | st (fs : List (Nat × Nat)) | fn | mp (k e : Nat)
structure TI where
  d : TD
  size : Nat
  bytes : Nat
  zero : Value
def FsOk (P : Program) (f : Array Field) : Nat → List (Nat × Nat) → Prop
  | _, [] => True
  | j, (o, e) :: r => (∃ x i, f[j]? = some x ∧ x.offset = o ∧ x.type = e ∧ P.info? e = some i ∧ Nat.beq i.size 0 = false) ∧ FsOk P f (j + 1) r
theorem FsOk.get {P : Program} {f : Array Field} : ∀ {l : List (Nat × Nat)} {k : Nat}, FsOk P f k l → ∀ {j o e : Nat}, l[j]? = some (o, e) →
    ∃ x i, f[k + j]? = some x ∧ x.offset = o ∧ x.type = e ∧ P.info? e = some i ∧ i.size ≠ 0
  | [], _, _, j, o, e, h => by simp at h
  | (o', e') :: r, k, hf, 0, o, e, h => by
    simp at h
    obtain ⟨rfl, rfl⟩ := h
    obtain ⟨x, i, h1, h2, h3, h4, h5⟩ := hf.1
    exact ⟨x, i, h1, h2, h3, h4, fun h0 => by rw [h0] at h5; simp at h5⟩
  | (o', e') :: r, k, hf, j + 1, o, e, h => by
    have := FsOk.get hf.2 (j := j) (by simpa using h)
    rwa [show k + (j + 1) = k + 1 + j by omega]
def TD.Ok (P : Program) (t : Nat) : TD → Prop
  | .int k => P.underlying t = some (.int k)
  | .bool => P.underlying t = some .bool
  | .str => P.underlying t = some .string
  | .sl e => P.underlying t = some (.slice e)
  | .ptr e => P.underlying t = some (.pointer e)
  | .st fs => ∃ f, P.underlying t = some (.struct f) ∧ f.size = fs.length ∧ FsOk P f 0 fs
  | .fn => ∃ a b c, P.underlying t = some (.func a b c)
  | .mp k e => P.underlying t = some (.map k e)
def TD.agg : TD → Bool
  | .st _ => true
  | _ => false
structure TIOk (P : Program) (t : Nat) (x : TI) : Prop where
  info : ∃ i, P.info? t = some i ∧ i.size = x.size ∧ i.bytes = x.bytes ∧ i.zero = some x.zero
  d : x.d.Ok P t
abbrev Tab := List (Nat × TI)
def Tab.get : Tab → Nat → Option TI
  | [], _ => none
  | (k, v) :: r, n => bif Nat.beq k n then some v else Tab.get r n
def TabOk (P : Program) (T : Tab) : Prop := ∀ t x, T.get t = some x → TIOk P t x
theorem tab_nil {P : Program} : TabOk P [] := fun t x h => by simp [Tab.get] at h
theorem tab_cons {P : Program} {T : Tab} {k : Nat} {v : TI} (h : TIOk P k v) (hr : TabOk P T) : TabOk P ((k, v) :: T) := fun t x hx => by
  simp only [Tab.get, cond_eq_ite] at hx
  split at hx
  · rename_i hb
    have := Nat.eq_of_beq_eq_true hb
    subst this
    simp at hx
    subst hx
    exact h
  · exact hr t x hx
theorem run_isAgg {P : Program} {T : Tab} (hT : TabOk P T) {t : Nat} {x : TI} (h : T.get t = some x) (w : World) : (isAgg t).run P w = .ok x.d.agg w := by
  have hd := (hT t x h).d
  unfold isAgg
  cases hx : x.d <;> rw [hx] at hd <;> simp only [TD.Ok] at hd
  case st fs => obtain ⟨f, hf, _⟩ := hd; simp [run_underlying hf, TD.agg]
  case fn => obtain ⟨a, b, c, hf⟩ := hd; simp [run_underlying hf, TD.agg]
  all_goals simp [run_underlying hd, TD.agg]
theorem run_sizeOf {P : Program} {T : Tab} (hT : TabOk P T) {t : Nat} {x : TI} (h : T.get t = some x) (w : World) : (Go.sizeOf t).run P w = .ok x.size w := by
  obtain ⟨i, h1, h2, _⟩ := (hT t x h).info
  simp [Go.sizeOf, typeInfo, h1, h2]
theorem run_zeroValue' {P : Program} {T : Tab} (hT : TabOk P T) {t : Nat} {x : TI} (h : T.get t = some x) (w : World) : (zeroValue t).run P w = .ok x.zero w := by
  obtain ⟨i, h1, _, _, h4⟩ := (hT t x h).info
  simp [zeroValue, typeInfo, h1, h4]
/-! ## Guards -/
def gd (ops : Array Oper) (G : Env) (o : Oper) : Option Bool :=
  match o.guard with
  | none => some true
  | some (j, want) => match (ops[j]?).bind (·.dst) with
    | some t => match Env.get G t with
      | some (.bool b) => some (b == want)
      | some (.tuple _) => some false
      | _ => none
    | none => none
theorem wanted_of_gd {ops : Array Oper} {G : Env} {o : Oper} {n : Nat} {a : Act} (hm : Models n a G) {b : Bool} (h : gd ops G o = some b) : Region.wanted o (yielded ops a.tmps) = b := by
  unfold gd at h
  unfold Region.wanted
  split at h
  · rename_i hg; simp at h; simp [hg, h]
  · rename_i j want hg
    split at h
    · rename_i t ht
      split at h
      · rename_i c hc
        simp at h
        simp [hg, yielded, ht, hm.val t _ hc, h]
      · rename_i hc
        simp at h
        simp [hg, yielded, ht, hm.val t _ hc, h]
      · cases h
    · cases h
section
variable {P : Program} {n : Nat} {ops : Array Oper} {Q : Exit → Act → World → Prop} {G : Env} {w : World} {K : Env → World → Prop}
theorem o_val {o : Oper} {d : Nat} {v : Value} {w' : World} (hg : gd ops G o = some true) (hd : o.dst = some d) (hdn : Nat.blt d n = true)
    (hrun : ∀ a, Models n a G → (execOp a.eval o).run P w = .ok (.value v) w') (h : K ((d, v) :: G) w') : OW P n ops Q G w o K := by
  intro a ha K' hK
  rw [if_pos (wanted_of_gd ha hg)]
  simp only [Oper.wp, hrun a ha, Oper.upon, hd]
  exact hK _ _ h _ (ha.put hdn v)
theorem o_unit {o : Oper} {w' : World} (hg : gd ops G o = some true) (hd : o.dst = none)
    (hrun : ∀ a, Models n a G → (execOp a.eval o).run P w = .ok .skip w') (h : K G w') : OW P n ops Q G w o K := by
  intro a ha K' hK
  rw [if_pos (wanted_of_gd ha hg)]
  simp only [Oper.wp, hrun a ha, Oper.upon, hd]
  exact hK _ _ h _ (ha.put_none _)
theorem o_skip {op : Op} {d ty : Nat} {pos : String} {af : Array Go.Edge} {g : Option (Nat × Bool)} (hg : gd ops G ⟨some d, op, ty, pos, af, g⟩ = some false) (hdn : Nat.blt d n = true) (h : K ((d, undef) :: G) w) : OW P n ops Q G w ⟨some d, op, ty, pos, af, g⟩ K := by
  intro a ha K' hK
  rw [if_neg (by rw [wanted_of_gd ha hg]; simp)]
  exact hK _ _ h _ (ha.put hdn undef)
end
/-! ## Values computed from values -/
def cmpI (op : BinOp) (x y : Int) : Option Value :=
  match op with
  | .eql => some (.bool (decide (x = y)))
  | .neq => some (.bool (!decide (x = y)))
  | .lss => some (.bool (decide (x < y)))
  | .leq => some (.bool (decide (x ≤ y)))
  | .gtr => some (.bool (decide (y < x)))
  | .geq => some (.bool (decide (y ≤ x)))
  | _ => none
/-- Names in order, byte by byte. -/
def sLt (a b : ByteArray) : Bool := Op.bytesLess a.data.toList b.data.toList
def cmpS (op : BinOp) (x y : ByteArray) : Option Value :=
  match op with
  | .eql => some (.bool (decide (x = y)))
  | .neq => some (.bool (!decide (x = y)))
  | .lss => some (.bool (sLt x y))
  | .leq => some (.bool (sLt x y || decide (x = y)))
  | .gtr => some (.bool (!(sLt x y || decide (x = y))))
  | .geq => some (.bool (!sLt x y))
  | _ => none
def binS (op : BinOp) : Value → Value → Option Value
  | .int .i64 x, .int .i64 y => cmpI op x y
  | .int .u8 x, .int .u8 y => cmpI op x y
  | .int .u64 x, .int .u64 y => cmpI op x y
  | .string x, .string y => cmpS op x y
  | _, _ => none
theorem intCmp_run {op : BinOp} {x y : Int} {v : Value} (h : cmpI op x y = some v) (P : Program) (w : World) : (Op.intCmp op x y).run P w = .ok v w := by
  cases op <;> simp [cmpI] at h <;> subst h <;> simp [Op.intCmp] <;> rfl
theorem bytes_beq (x y : ByteArray) : (x.toList == y.toList) = decide (x = y) := by
  rw [ByteArray.toList_eq, ByteArray.toList_eq, Bool.eq_iff_iff]
  simp only [beq_iff_eq, decide_eq_true_eq]
  constructor
  · intro h
    cases x; cases y
    simp only [ByteArray.mk.injEq]
    exact Array.toList_inj.1 h
  · intro h; rw [h]
theorem stringOp_run {op : BinOp} {x y : ByteArray} {v : Value} (h : cmpS op x y = some v) (P : Program) (w : World) : (Op.stringOp op x y).run P w = .ok v w := by
  have hb := bytes_beq x y
  have e1 : x.toList = x.data.toList := ByteArray.toList_eq x
  have e2 : y.toList = y.data.toList := ByteArray.toList_eq y
  cases op <;> simp only [cmpS] at h <;> (try cases h) <;> simp only [Op.stringOp, hb, sLt, Sem.run_pure] <;> simp only [e1, e2]
theorem binOp_run {op : BinOp} {x y : Value} {v : Value} (h : binS op x y = some v) (t : TypeId) (ox oy : Operand) (P : Program) (w : World) :
    (do eqGuard op t ox oy x y; binOp op t x y : Sem Value).run P w = .ok v w := by
  unfold binS at h
  split at h
  · have hr := intCmp_run h P w
    cases op <;> simp [cmpI] at h <;> simpa [eqGuard, binOp] using hr
  · have hr := intCmp_run h P w
    cases op <;> simp [cmpI] at h <;> simpa [eqGuard, binOp] using hr
  · have hr := intCmp_run h P w
    cases op <;> simp [cmpI] at h <;> simpa [eqGuard, binOp] using hr
  · have hr := stringOp_run h P w
    cases op <;> simp only [cmpS] at h <;> (try cases h) <;> simpa [eqGuard, binOp] using hr
  · cases h
def minS : Value → Value → Option Value
  | .int .i64 x, .int .i64 y => some (.int .i64 (if y < x then y else x))
  | _, _ => none
def pureS (T : Tab) (G : Env) : Op → Option Value
  | .move x => Env.ev G x
  | .assign x => Env.ev G x
  | .pick c a b => match Env.ev G c with
    | some (.bool true) => Env.ev G a
    | some (.bool false) => Env.ev G b
    | _ => none
  | .binOp op _ x y _ => match Env.ev G x with
    | some u => match Env.ev G y with
      | some v => binS op u v
      | none => none
    | none => none
  | .unOp .not _ x => match Env.ev G x with
    | some (.bool b) => some (.bool (!b))
    | _ => none
  | .extract x i => match Env.ev G x with
    | some (.tuple vs) => vs[i]?
    | _ => none
  | .fieldAddr t x i => match Env.ev G x with
    | some (.pointer (some ⟨b, off, none⟩)) => match T.get t with
      | some ⟨.st fs, _, _, _⟩ => match fs[i]? with
        | some (o, _) => some (.pointer (some ⟨b, off + o, none⟩))
        | none => none
      | _ => none
    | _ => none
  | .makeFunc fn first captured => match Env.evs G first.toList with
    | some fs => match Env.evs G captured.toList with
      | some cs => some (.func fn fs.toArray cs.toArray)
      | none => none
    | none => none
  | .nilCheck x => match Env.ev G x with
    | some (.pointer (some a)) => some (.pointer (some a))
    | _ => none
  | .call ⟨.builtin .len, args, tys⟩ => match args.toList, tys.toList with
    | [x], [t] => match Env.ev G x with
      | some (.slice _ len _) => match T.get t with
        | some ⟨.sl _, _, _, _⟩ => some (.int .i64 (len : Int))
        | _ => none
      | some (.string s) => match T.get t with
        | some ⟨.str, _, _, _⟩ => some (.int .i64 (s.size : Int))
        | _ => none
      | _ => none
    | _, _ => none
  | .call ⟨.builtin .min, args, _⟩ => match args.toList with
    | [x, y] => match Env.ev G x with
      | some u => match Env.ev G y with
        | some v => minS u v
        | none => none
      | none => none
    | _ => none
  | _ => none
theorem addr_add (b off k : Nat) : (⟨b, off, none⟩ : Addr).add k = ⟨b, off + k, none⟩ := by
  unfold Addr.add
  split
  · rename_i h; simp [h]
  · rfl
theorem array_of_toList {α : Type} {a : Array α} {l : List α} (h : a.toList = l) : a = l.toArray := by rw [← h]
theorem pureS_run {P : Program} {T : Tab} (hT : TabOk P T) {n : Nat} {a : Act} {G : Env} (hm : Models n a G) {o : Oper} {v : Value} (h : pureS T G o.op = some v) (w : World) :
    (execOp a.eval o).run P w = .ok (.value v) w := by
  obtain ⟨dst, op, type, pos, after, guard⟩ := o
  simp only at h
  unfold pureS at h
  split at h
  case h_1 x => simp [execOp, hm.ev h]
  case h_2 x => simp [execOp, hm.ev h]
  case h_3 c x y =>
    split at h
    · rename_i hc; simp [execOp, hm.ev hc, hm.ev h, asBool]
    · rename_i hc; simp [execOp, hm.ev hc, hm.ev h, asBool]
    · cases h
  case h_4 bop t x y t' =>
    split at h
    · rename_i u hu
      split at h
      · rename_i u' hu'
        have := binOp_run h t x y P w
        simp only [execOp, hm.ev hu, hm.ev hu']
        simp only [Sem.run_bind] at this ⊢
        rw [this]
        rfl
      · cases h
    · cases h
  case h_5 t x =>
    split at h
    · rename_i b hb; simp at h; subst h; simp [execOp, hm.ev hb, Op.unary]
    · cases h
  case h_6 x i =>
    split at h
    · rename_i vs hv; simp [execOp, hm.ev hv, Instr.extract, h]
    · cases h
  case h_7 t x i =>
    split at h
    · rename_i b off hx
      split at h
      · rename_i fs s b z ht
        split at h
        · rename_i o e he
          simp at h
          subst h
          obtain ⟨f, hf, _, hfs⟩ := (hT t _ ht).d
          obtain ⟨y, i', h1, h2, h3, h4, h5⟩ := hfs.get he
          simp only [Nat.zero_add] at h1
          simp [execOp, hm.ev hx, Instr.fieldAt, run_underlying hf, h1, Instr.sureAddr, fieldPlace, Go.sizeOf, typeInfo, h3, h4, h5, h2, addr_add]
        · cases h
      · cases h
    · cases h
  case h_8 fn first captured =>
    split at h
    · rename_i fs hfs
      split at h
      · rename_i cs hcs
        simp at h
        subst h
        have e1 : first.map a.eval = fs.toArray := array_of_toList (by simp [hm.evs hfs])
        have e2 : captured.map a.eval = cs.toArray := array_of_toList (by simp [hm.evs hcs])
        simp [execOp, Instr.makeFunc, e1, e2]
      · cases h
    · cases h
  case h_9 x =>
    split at h
    · rename_i b hb; simp at h; subst h; simp [execOp, hm.ev hb]
    · cases h
  case h_10 args tys =>
    split at h
    · rename_i x t hargs htys
      have ha : args = #[x] := array_of_toList hargs
      have ht : tys = #[t] := array_of_toList htys
      subst ha; subst ht
      split at h
      · rename_i ad len cap hx
        split at h
        · rename_i e s b z hty
          simp at h
          subst h
          have hd := (hT t _ hty).d
          simp only [TD.Ok] at hd
          simp [execOp, resolve, invoke, builtin, hm.ev hx, Builtin.len_, run_underlying hd, goInt]
        · cases h
      · rename_i s hx
        split at h
        · rename_i s' b z hty
          simp at h
          subst h
          have hd := (hT t _ hty).d
          simp only [TD.Ok] at hd
          simp [execOp, resolve, invoke, builtin, hm.ev hx, Builtin.len_, run_underlying hd, goInt]
        · cases h
      · cases h
    · cases h
  case h_11 args tys =>
    split at h
    · rename_i x y hargs
      have ha : args = #[x, y] := array_of_toList hargs
      subst ha
      split at h
      · rename_i u hu
        split at h
        · rename_i u' hu'
          unfold minS at h
          split at h
          · simp at h; subst h
            simp [execOp, resolve, invoke, builtin, hm.ev hu, hm.ev hu', Builtin.min_, Builtin.min2]
          · cases h
        · cases h
      · cases h
    · cases h
  case h_12 => cases h
section
variable {P : Program} {T : Tab} {n : Nat} {ops : Array Oper} {Q : Exit → Act → World → Prop} {G : Env} {w : World} {K : Env → World → Prop}
  {d ty : Nat} {pos : String} {af : Array Go.Edge} {g : Option (Nat × Bool)}
theorem o_p {op : Op} {v : Value} (hT : TabOk P T) (hv : pureS T G op = some v) (hg : gd ops G ⟨some d, op, ty, pos, af, g⟩ = some true) (hdn : Nat.blt d n = true)
    (h : K ((d, v) :: G) w) : OW P n ops Q G w ⟨some d, op, ty, pos, af, g⟩ K :=
  o_val hg rfl hdn (fun _ ha => pureS_run hT ha hv w) h
/-- One operation that computes a value from values, or that isn't wanted: its slot, and the value. -/
def stepP (T : Tab) (n : Nat) (ops : Array Oper) (G : Env) (o : Oper) : Option (Nat × Value) :=
  match o.dst with
  | none => none
  | some d => bif Nat.blt d n then
      match gd ops G o with
      | some true => match pureS T G o.op with
        | some v => some (d, v)
        | none => none
      | some false => some (d, undef)
      | none => none
    else none
/-- So many of them. -/
def runP (T : Tab) (n : Nat) (ops : Array Oper) : Nat → Env → List Oper → Option (Env × List Oper)
  | 0, G, l => some (G, l)
  | _ + 1, _, [] => none
  | k + 1, G, o :: r => match stepP T n ops G o with
    | some (d, v) => runP T n ops k ((d, v) :: G) r
    | none => none
theorem lP (k : Nat) {G' : Env} {l l' : List Oper} (hT : TabOk P T) (hr : runP T n ops k G l = some (G', l')) (h : WL P n ops Q G' w l') : WL P n ops Q G w l := by
  induction k generalizing G l with
  | zero => simp [runP] at hr; obtain ⟨rfl, rfl⟩ := hr; exact h
  | succ k ih =>
    cases l with
    | nil => simp [runP] at hr
    | cons o r =>
      simp only [runP] at hr
      split at hr
      · rename_i d v hs
        obtain ⟨od, op, ty, pos, af, g⟩ := o
        unfold stepP at hs
        simp only at hs
        split at hs
        · cases hs
        · rename_i d' 
          cases hb : Nat.blt d' n with
          | false => rw [hb] at hs; cases hs
          | true =>
            rw [hb] at hs
            simp only [cond_true] at hs
            split at hs
            · rename_i hg
              split at hs
              · rename_i v' hv
                simp only [Option.some.injEq, Prod.mk.injEq] at hs
                obtain ⟨rfl, rfl⟩ := hs
                exact lC (o_p hT hv hg hb (ih hr))
              · cases hs
            · rename_i hg
              simp only [Option.some.injEq, Prod.mk.injEq] at hs
              obtain ⟨rfl, rfl⟩ := hs
              exact lC (o_skip hg hb (ih hr))
            · cases hs
      · cases hr
/-- Sums, differences, products. -/
def arI (op : BinOp) (x y : Int) : Option Int :=
  match op with
  | .add => some (x + y)
  | .sub => some (x - y)
  | .mul => some (x * y)
  | _ => none
theorem o_ar {bop : BinOp} {t t' : TypeId} {x y : Operand} {k : IntKind} {p q r z : Int} (hx : Env.ev G x = some (.int k p)) (hy : Env.ev G y = some (.int k q)) (hr : arI bop p q = some r) (hz : k.wrap r = z)
    (hg : gd ops G ⟨some d, .binOp bop t x y t', ty, pos, af, g⟩ = some true) (hdn : Nat.blt d n = true) (h : K ((d, .int k z) :: G) w) : OW P n ops Q G w ⟨some d, .binOp bop t x y t', ty, pos, af, g⟩ K := by
  refine o_val hg rfl hdn (fun a ha => ?_) h
  cases bop <;> simp [arI] at hr <;> subst hr <;> subst hz <;> simp [execOp, ha.ev hx, ha.ev hy, eqGuard, binOp, Op.intArith]
theorem oK {f : FuncId} {args : Array Operand} {tys : Array TypeId} {vs : List Value} {R : Value → World → Prop} (hf : FnOk P f) (hv : Env.evs G args.toList = some vs)
    (hg : gd ops G ⟨some d, .call ⟨.value (.func f), args, tys⟩, ty, pos, af, g⟩ = some true) (hdn : Nat.blt d n = true)
    (hc : Calls P f vs.toArray w (Ret R)) (h : ∀ v w', R v w' → K ((d, v) :: G) w') : OW P n ops Q G w ⟨some d, .call ⟨.value (.func f), args, tys⟩, ty, pos, af, g⟩ K := by
  intro a ha K' hK
  rw [if_pos (wanted_of_gd ha hg)]
  have e : args.map a.eval = vs.toArray := array_of_toList (by simp [ha.evs hv])
  have hrun : (execOp a.eval ⟨some d, .call ⟨.value (.func f), args, tys⟩, ty, pos, af, g⟩).run P w = .ok (.enter f vs.toArray) w := by
    simp [execOp, resolve, e, Deferred.ofValue, Act.eval, invoke, run_callFunc_ok hf]
  simp only [Oper.wp, hrun, Oper.upon]
  refine hc.mono fun en w' hr => ?_
  cases en with
  | returned v => exact hK _ _ (h v w' hr) _ (ha.put hdn v)
  | panicked c => exact hr.elim
  | outgrown => exact hr.elim
theorem o_dyn {f : FuncId} {x : Operand} {caps : List Value} {args : Array Operand} {tys : Array TypeId} {vs : List Value} {R : Value → World → Prop} (hx : Env.ev G x = some (.func (.func f) #[] caps.toArray)) (hf : FnOk P f) (hv : Env.evs G args.toList = some vs)
    (hg : gd ops G ⟨some d, .call ⟨.value x, args, tys⟩, ty, pos, af, g⟩ = some true) (hdn : Nat.blt d n = true)
    (hc : Calls P f (vs ++ caps).toArray w (Ret R)) (h : ∀ v w', R v w' → K ((d, v) :: G) w') : OW P n ops Q G w ⟨some d, .call ⟨.value x, args, tys⟩, ty, pos, af, g⟩ K := by
  intro a ha K' hK
  rw [if_pos (wanted_of_gd ha hg)]
  have e : args.map a.eval = vs.toArray := array_of_toList (by simp [ha.evs hv])
  have hrun : (execOp a.eval ⟨some d, .call ⟨.value x, args, tys⟩, ty, pos, af, g⟩).run P w = .ok (.enter f (vs ++ caps).toArray) w := by
    simp [execOp, resolve, e, ha.ev hx, Deferred.ofValue, invoke, run_callFunc_ok hf]
  simp only [Oper.wp, hrun, Oper.upon]
  refine hc.mono fun en w' hr => ?_
  cases en with
  | returned v => exact hK _ _ (h v w' hr) _ (ha.put hdn v)
  | panicked c => exact hr.elim
  | outgrown => exact hr.elim
theorem oD {t : TypeId} {x : Operand} {v : Value} {b o : Nat} {ti : TI} (hT : TabOk P T) (hc : w.cell? ⟨b, o, none⟩ = some v) (hx : Env.ev G x = some (.pointer (some ⟨b, o, none⟩))) (ht : T.get t = some ti) (hta : ti.d.agg = false)
    (hg : gd ops G ⟨some d, .load t x, ty, pos, af, g⟩ = some true) (hdn : Nat.blt d n = true) (h : K ((d, v) :: G) w) : OW P n ops Q G w ⟨some d, .load t x, ty, pos, af, g⟩ K := by
  refine o_val hg rfl hdn (fun a ha => ?_) h
  simp [execOp, ha.ev hx, Instr.loadAt, Instr.sureAddr, loadVar, run_isAgg hT ht, hta, hc]
theorem oL {t : TypeId} {x : Operand} {cs : List Value} {b o : Nat} {ti : TI} (hT : TabOk P T) (hc : ∀ j v, cs[j]? = some v → w.cell? ⟨b, o + j, none⟩ = some v) (hx : Env.ev G x = some (.pointer (some ⟨b, o, none⟩))) (ht : T.get t = some ti) (hta : ti.d.agg = true)
    (hl : cs.length = ti.size)
    (hg : gd ops G ⟨some d, .load t x, ty, pos, af, g⟩ = some true) (hdn : Nat.blt d n = true) (h : K ((d, .agg cs.toArray) :: G) w) : OW P n ops Q G w ⟨some d, .load t x, ty, pos, af, g⟩ K := by
  refine o_val hg rfl hdn (fun a ha => ?_) h
  have hlc : (loadCells ⟨b, o, none⟩ ti.size).run P w = .ok cs.toArray w := by
    rw [← hl]
    exact run_loadCells_list (P := P) w ⟨b, o, none⟩ cs (fun j v hv => by rw [addr_add]; exact hc j v hv)
  simp [execOp, ha.ev hx, Instr.loadAt, Instr.sureAddr, loadVar, run_isAgg hT ht, hta, run_sizeOf hT ht, hlc]
theorem o_ix {t : TypeId} {x i : Operand} {b off len cap e : Nat} {k : IntKind} {z : Int} {j : Nat} {ti te : TI} (hT : TabOk P T) (hx : Env.ev G x = some (.slice (some ⟨b, off, none⟩) len cap)) (hi : Env.ev G i = some (.int k z))
    (ht : T.get t = some ti) (htd : ti.d = .sl e) (hte : T.get e = some te) (hj : z = (j : Int)) (hlt : j < len)
    (hg : gd ops G ⟨some d, .indexAddr t x i, ty, pos, af, g⟩ = some true) (hdn : Nat.blt d n = true) (h : K ((d, .pointer (some ⟨b, off + j * te.size, none⟩)) :: G) w) : OW P n ops Q G w ⟨some d, .indexAddr t x i, ty, pos, af, g⟩ K := by
  refine o_val hg rfl hdn (fun a ha => ?_) h
  have hd := (hT t _ ht).d
  rw [htd] at hd
  simp only [TD.Ok] at hd
  subst hj
  have h1 : (0 : Int) ≤ (j : Int) ∧ (j : Int) < (len : Int) := by omega
  simp [execOp, ha.ev hx, ha.ev hi, Instr.indexAt, asIntOf, run_underlying hd, h1, run_sizeOf hT hte, addr_add]
  intro hge
  omega
theorem run_si {t : TypeId} {x i : Operand} {s : ByteArray} {k : IntKind} {z : Int} {j : Nat} {c : UInt8} {ti : TI} (hT : TabOk P T) {a : Act} (ha : Models n a G) (hx : Env.ev G x = some (.string s)) (hi : Env.ev G i = some (.int k z))
    (ht : T.get t = some ti) (htd : ti.d = .str) (hj : z = (j : Int)) (hc : s.data[j]? = some c) (w : World) : (execOp a.eval ⟨some d, .index t x i, ty, pos, af, g⟩).run P w = .ok (.value (.int .u8 c.toNat)) w := by
  have hd := (hT t _ ht).d
  rw [htd] at hd
  simp only [TD.Ok] at hd
  subst hj
  have hc' : s[j]? = some c := by
    rw [Array.getElem?_eq_some_iff] at hc
    obtain ⟨hlt, rfl⟩ := hc
    exact getElem?_pos s j hlt
  simp [execOp, ha.ev hx, ha.ev hi, Instr.index, asIntOf, run_underlying hd, hc']
theorem o_si {t : TypeId} {x i : Operand} {s : ByteArray} {k : IntKind} {z : Int} {j : Nat} {c : UInt8} {ti : TI} (hT : TabOk P T) (hx : Env.ev G x = some (.string s)) (hi : Env.ev G i = some (.int k z))
    (ht : T.get t = some ti) (htd : ti.d = .str) (hj : z = (j : Int)) (hc : s.data[j]? = some c)
    (hg : gd ops G ⟨some d, .index t x i, ty, pos, af, g⟩ = some true) (hdn : Nat.blt d n = true) (h : K ((d, .int .u8 c.toNat) :: G) w) : OW P n ops Q G w ⟨some d, .index t x i, ty, pos, af, g⟩ K := by
  exact o_val hg rfl hdn (fun a ha => run_si hT ha hx hi ht htd hj hc w) h
theorem o_box {e : TypeId} {x : Operand} {v : Value} (hv : Env.ev G x = some v)
    (hg : gd ops G ⟨some d, .box e x, ty, pos, af, g⟩ = some true) (hdn : Nat.blt d n = true)
    (h : ∀ b w', b = w.heap.size → Ext w w' → Box w' b e v.cells.toList → K ((d, .pointer (some ⟨b, 0, none⟩)) :: G) w') : OW P n ops Q G w ⟨some d, .box e x, ty, pos, af, g⟩ K := by
  refine o_val (w' := w.alloc (.cells v.cells e)) hg rfl hdn (fun a ha => ?_) (h w.heap.size _ rfl (ext_alloc _ _) ⟨?_⟩)
  · simp [execOp, ha.ev hv, Instr.box, newVar, newRow]
  · simpa using heap_alloc_new w (.cells v.cells e)
theorem o_new {e : TypeId} {ti : TI} (hT : TabOk P T) (he : T.get e = some ti)
    (hg : gd ops G ⟨some d, .alloc e, ty, pos, af, g⟩ = some true) (hdn : Nat.blt d n = true)
    (h : ∀ b w', b = w.heap.size → Ext w w' → Box w' b e ti.zero.cells.toList → K ((d, .pointer (some ⟨b, 0, none⟩)) :: G) w') : OW P n ops Q G w ⟨some d, .alloc e, ty, pos, af, g⟩ K := by
  refine o_val (w' := w.alloc (.cells ti.zero.cells e)) hg rfl hdn (fun a _ => ?_) (h w.heap.size _ rfl (ext_alloc _ _) ⟨?_⟩)
  · simp [execOp, Instr.alloc, run_zeroValue' hT he, newVar, newRow]
  · simpa using heap_alloc_new w (.cells ti.zero.cells e)
end
section
variable {P : Program} {n : Nat} {ops : Array Oper} {Q : Exit → Act → World → Prop} {G : Env} {w : World} {K : Env → World → Prop} {d ty : Nat} {pos : String} {af : Array Go.Edge} {g : Option (Nat × Bool)}
theorem o_ai {bop : BinOp} {t t' : TypeId} {x y : Operand} {p q r : Int} (hx : Env.ev G x = some (.int .i64 p)) (hy : Env.ev G y = some (.int .i64 q)) (hr : arI bop p q = some r) (hz : -9223372036854775808 ≤ r ∧ r ≤ 9223372036854775807)
    (hg : gd ops G ⟨some d, .binOp bop t x y t', ty, pos, af, g⟩ = some true) (hdn : Nat.blt d n = true) (h : K ((d, .int .i64 r) :: G) w) : OW P n ops Q G w ⟨some d, .binOp bop t x y t', ty, pos, af, g⟩ K := o_ar hx hy hr (IntWalk.i64_in _ hz) hg hdn h
end
theorem Ext.z {w w' : World} {k : Nat} (e : Ext w w') (h : k ≤ w.heap.size) : k ≤ w'.heap.size := Nat.le_trans h e.size
theorem Ext.bl {w w' w0 : World} {k : Nat} (e : Ext w w') (h : Below k w0 w) (hB : k ≤ w.heap.size) : Below k w0 w' := h.trans (Below.mono e hB)
open Go Go.RowKit
/-- Data that values read as: so many cells, in blocks that nobody writes. -/
class Rep (α : Type) where
  sz : Nat
  R : (Nat → Prop) → World → Value → α → Prop
  pos : 0 < sz
  size : ∀ {M w v x}, R M w v x → v.cells.size = sz
  one : ∀ {M w v x}, R M w v x → ∀ u ∈ v.cells.toList, u.oneCell' = true
  upd : ∀ {M w w' v x}, R M w v x → Upd M w w' → R M w' v x
  wk : ∀ {M M' w v x}, R M w v x → (∀ b, b < w.heap.size → M' b → M b) → R M' w v x
section
variable {α : Type} [Rep α] {M : Nat → Prop} {w w' : World} {v : Value} {x : α}
theorem Rep.Y (h : Rep.R M w v x) (e : Ext w w') : Rep.R M w' v x := Rep.upd h (e.upd M)
end
/-- From world to world: only what is in M is written; what is new in M' is new. -/
structure Stp (B : Nat) (M M' : Nat → Prop) (w w' : World) : Prop where
  upd : Upd M w w'
  wk : ∀ b, b < w.heap.size → M' b → M b
  sub : ∀ b, M b → M' b
  low : Low M' w'
  below : Below B w w'
theorem Rep.sp {α : Type} [Rep α] {B : Nat} {M M' : Nat → Prop} {w w' : World} {v : Value} {x : α} (h : Rep.R M w v x) (s : Stp B M M' w w') : Rep.R M' w' v x :=
  Rep.upd (Rep.wk h s.wk) ⟨s.upd.1, fun b hb hn => s.upd.2 b hb (fun hm => hn (s.sub b hm))⟩
theorem At.sp {B : Nat} {M M' : Nat → Prop} {w w' : World} {b off : Nat} {cs : List Value} (h : At M w b off cs) (s : Stp B M M' w w') : At M' w' b off cs :=
  At.upd (At.wk h s.wk) ⟨s.upd.1, fun b hb hn => s.upd.2 b hb (fun hm => hn (s.sub b hm))⟩
theorem Stp.Y {B : Nat} {M : Nat → Prop} {w w' : World} (h : Ext w w') (hl : Low M w) (hB : B ≤ w.heap.size) : Stp B M M w w' :=
  ⟨h.upd M, fun _ _ h => h, fun _ h => h, hl.Y h, Below.mono h hB⟩
theorem Stp.then {B : Nat} {M M' M'' : Nat → Prop} {w w' w'' : World} (h : Stp B M M' w w') (k : Stp B M' M'' w' w'') : Stp B M M'' w w'' :=
  ⟨⟨Nat.le_trans h.upd.1 k.upd.1, fun b hb hn => (k.upd.2 b (lT hb h.upd.1) (fun hm => hn (h.wk b hb hm))).trans (h.upd.2 b hb hn)⟩,
   fun b hb hm => h.wk b hb (k.wk b (lT hb h.upd.1) hm), fun b hm => k.sub b (h.sub b hm), k.low, h.below.trans k.below⟩
theorem Stp.refl {B : Nat} {M : Nat → Prop} {w : World} (hl : Low M w) : Stp B M M w w :=
  ⟨⟨lR _, fun _ _ _ => rfl⟩, fun _ _ h => h, fun _ h => h, hl, Below.refl _ _⟩
theorem Stp.add {B : Nat} {M : Nat → Prop} {w w' : World} (h : Ext w w') (hl : Low M w) (hB : B ≤ w.heap.size) {b : Nat} (hb : w.heap.size ≤ b) (hb' : b < w'.heap.size) : Stp B M (Add M b) w w' :=
  ⟨h.upd M, fun x hx hm => hm.resolve_right (fun e => by omega), fun _ h => .inl h, (hl.Y h).add hb', Below.mono h hB⟩
theorem nO {M : Nat → Prop} {w : World} {b : Nat} (h : Low M w) (hb : b = w.heap.size) : ¬ M b := fun hm => by have := h b hm; omega
/-! ## Scalars -/
def I64 (n : Int) : Prop := -9223372036854775808 ≤ n ∧ n ≤ 9223372036854775807
instance : Rep Int where
  sz := 1
  R := fun _ _ v n => v = .int .i64 n ∧ I64 n
  pos := by decide
  size := by rintro M w v x ⟨rfl, _⟩; rfl
  one := by rintro M w v x ⟨rfl, _⟩ u hu; simp [Value.cells] at hu; subst hu; rfl
  upd := fun h _ => h
  wk := fun h _ => h
instance : Rep ByteArray where
  sz := 1
  R := fun _ _ v s => v = .string s ∧ s.size < 140737488355328
  pos := by decide
  size := by rintro M w v x ⟨rfl, _⟩; rfl
  one := by rintro M w v x ⟨rfl, _⟩ u hu; simp [Value.cells] at hu; subst hu; rfl
  upd := fun h _ => h
  wk := fun h _ => h
/-! ## Slices that are read -/
/-- Element i lies behind the slice's beginning, and reads as the i-th thing. -/
def Elems {α : Type} [Rep α] (M : Nat → Prop) (w : World) (a : Option Addr) (l : List α) : Prop :=
  l = [] ∨ ∃ b off, a = some ⟨b, off, none⟩ ∧ ∀ (i : Nat) (x : α), l[i]? = some x → ∃ u, Rep.R M w u x ∧ At M w b (off + i * Rep.sz α) u.cells.toList
def Sl {α : Type} [Rep α] (M : Nat → Prop) (w : World) (v : Value) (l : List α) : Prop :=
  ∃ a cap, v = .slice a l.length cap ∧ l.length < 140737488355328 ∧ l.length ≤ cap ∧ Elems M w a l
section
variable {α : Type} [Rep α] {M M' : Nat → Prop} {w w' : World} {v : Value} {l : List α}
theorem Elems.upd {a : Option Addr} (h : Elems M w a l) (e : Upd M w w') : Elems M w' a l := by
  rcases h with h | ⟨b, off, ha, hx⟩
  · exact .inl h
  · exact .inr ⟨b, off, ha, fun i x hi => let ⟨u, h1, h2⟩ := hx i x hi; ⟨u, Rep.upd h1 e, h2.upd e⟩⟩
theorem Elems.wk {a : Option Addr} (h : Elems M w a l) (e : ∀ b, b < w.heap.size → M' b → M b) : Elems M' w a l := by
  rcases h with h | ⟨b, off, ha, hx⟩
  · exact .inl h
  · exact .inr ⟨b, off, ha, fun i x hi => let ⟨u, h1, h2⟩ := hx i x hi; ⟨u, Rep.wk h1 e, h2.wk e⟩⟩
theorem Sl.upd (h : Sl M w v l) (e : Upd M w w') : Sl M w' v l := let ⟨a, c, h1, h2, h3, h4⟩ := h; ⟨a, c, h1, h2, h3, h4.upd e⟩
theorem Sl.wk (h : Sl M w v l) (e : ∀ b, b < w.heap.size → M' b → M b) : Sl M' w v l := let ⟨a, c, h1, h2, h3, h4⟩ := h; ⟨a, c, h1, h2, h3, h4.wk e⟩
theorem Sl.Y (h : Sl M w v l) (e : Ext w w') : Sl M w' v l := h.upd (e.upd M)
theorem Sl.sp {B : Nat} (h : Sl M w v l) (s : Stp B M M' w w') : Sl M' w' v l :=
  Sl.upd (Sl.wk h s.wk) ⟨s.upd.1, fun b hb hn => s.upd.2 b hb (fun hm => hn (s.sub b hm))⟩
theorem Sl.lt (h : Sl M w v l) : l.length < 140737488355328 := let ⟨_, _, _, h2, _, _⟩ := h; h2
theorem sl_nil : Sl M w (.slice none 0 0) ([] : List α) := ⟨none, 0, rfl, by simp, by simp, .inl rfl⟩
theorem Sl.cells (h : Sl M w v l) : v.cells = #[v] := by obtain ⟨a, c, rfl, _⟩ := h; rfl
end
instance {α : Type} [Rep α] : Rep (List α) where
  sz := 1
  R := Sl
  pos := by decide
  size := by rintro M w v x ⟨a, c, rfl, _⟩; rfl
  one := by rintro M w v x ⟨a, c, rfl, _⟩ u hu; simp [Value.cells] at hu; subst hu; rfl
  upd := Sl.upd
  wk := Sl.wk
section
variable {P : Program} {T : Tab} {n : Nat} {ops : Array Oper} {Q : Exit → Act → World → Prop} {G : Env} {w : World} {K : Env → World → Prop}
  {d ty : Nat} {pos : String} {af : Array Go.Edge} {g : Option (Nat × Bool)}
variable {α : Type} [Rep α] {M : Nat → Prop} {v : Value} {l : List α}
theorem o_len {t : TypeId} {x : Operand} {ti : TI} {e : Nat} (hT : TabOk P T) (hs : Sl M w v l) (hx : Env.ev G x = some v) (ht : T.get t = some ti) (htd : ti.d = .sl e)
    (hg : gd ops G ⟨some d, .call ⟨.builtin .len, #[x], #[t]⟩, ty, pos, af, g⟩ = some true) (hdn : Nat.blt d n = true) (h : K ((d, .int .i64 (l.length : Int)) :: G) w) :
    OW P n ops Q G w ⟨some d, .call ⟨.builtin .len, #[x], #[t]⟩, ty, pos, af, g⟩ K := by
  obtain ⟨a, c, rfl, _⟩ := hs
  obtain ⟨td, _, _, _⟩ := ti
  simp only at htd
  subst htd
  exact o_p hT (by simp [pureS, hx, ht]) hg hdn h
theorem o_ixS {t : TypeId} {x i : Operand} {k : IntKind} {z : Int} {j : Nat} {y : α} {ti te : TI} {e : Nat} (hT : TabOk P T) (hs : Sl M w v l) (hy : l[j]? = some y) (hx : Env.ev G x = some v) (hi : Env.ev G i = some (.int k z)) (hj : z = (j : Int))
    (ht : T.get t = some ti) (htd : ti.d = .sl e) (hte : T.get e = some te) (hsz : te.size = Rep.sz α)
    (hg : gd ops G ⟨some d, .indexAddr t x i, ty, pos, af, g⟩ = some true) (hdn : Nat.blt d n = true)
    (h : ∀ b o u, Rep.R M w u y → At M w b o u.cells.toList → K ((d, .pointer (some ⟨b, o, none⟩)) :: G) w) : OW P n ops Q G w ⟨some d, .indexAddr t x i, ty, pos, af, g⟩ K := by
  obtain ⟨a, c, rfl, _, _, he⟩ := hs
  have hlt : j < l.length := (List.getElem?_eq_some_iff.1 hy).1
  rcases he with he | ⟨b, off, ha, hel⟩
  · subst he; simp at hlt
  · subst ha
    obtain ⟨u, h1, h2⟩ := hel j y hy
    refine o_ix hT hx hi ht htd hte hj hlt hg hdn (h b _ u h1 ?_)
    rw [hsz]; exact h2
end
/-! ## Slices of the call's own -/
/-- Values, one by one, read as data. -/
def Rs {α : Type} [Rep α] (M : Nat → Prop) (w : World) : List Value → List α → Prop
  | [], [] => True
  | u :: us, x :: xs => Rep.R M w u x ∧ Rs M w us xs
  | _, _ => False
def flat (us : List Value) : List Value := us.flatMap (·.cells.toList)
section
variable {α : Type} [Rep α] {M M' : Nat → Prop} {w w' : World}
theorem Rs.length : ∀ {us : List Value} {l : List α}, Rs M w us l → us.length = l.length
  | [], [], _ => rfl
  | _ :: _, _ :: _, h => by simp [Rs.length h.2]
  | [], _ :: _, h => h.elim
  | _ :: _, [], h => h.elim
theorem Rs.upd : ∀ {us : List Value} {l : List α}, Rs M w us l → Upd M w w' → Rs M w' us l
  | [], [], _, _ => trivial
  | _ :: _, _ :: _, h, e => ⟨Rep.upd h.1 e, Rs.upd h.2 e⟩
  | [], _ :: _, h, _ => h.elim
  | _ :: _, [], h, _ => h.elim
theorem Rs.wk : ∀ {us : List Value} {l : List α}, Rs M w us l → (∀ b, b < w.heap.size → M' b → M b) → Rs M' w us l
  | [], [], _, _ => trivial
  | _ :: _, _ :: _, h, e => ⟨Rep.wk h.1 e, Rs.wk h.2 e⟩
  | [], _ :: _, h, _ => h.elim
  | _ :: _, [], h, _ => h.elim
theorem Rs.append : ∀ {us vs : List Value} {l k : List α}, Rs M w us l → Rs M w vs k → Rs M w (us ++ vs) (l ++ k)
  | [], _, [], _, _, h => h
  | _ :: _, _, _ :: _, _, h, h' => ⟨h.1, Rs.append h.2 h'⟩
  | [], _, _ :: _, _, h, _ => h.elim
  | _ :: _, _, [], _, h, _ => h.elim
theorem Rs.get : ∀ {us : List Value} {l : List α}, Rs M w us l → ∀ {i : Nat} {x : α}, l[i]? = some x → ∃ u, us[i]? = some u ∧ Rep.R M w u x
  | [], [], _, i, x, h => by simp at h
  | u :: _, _ :: _, h, 0, x, hx => by simp at hx; subst hx; exact ⟨u, rfl, h.1⟩
  | _ :: _, _ :: _, h, i + 1, x, hx => by simpa using Rs.get h.2 (i := i) (by simpa using hx)
  | [], _ :: _, h, _, _, _ => h.elim
  | _ :: _, [], h, _, _, _ => h.elim
theorem Rs.flat_length : ∀ {us : List Value} {l : List α}, Rs M w us l → (flat us).length = l.length * Rep.sz α
  | [], [], _ => by simp [flat]
  | u :: us, x :: xs, h => by
    have h1 := Rep.size h.1
    have h2 := Rs.flat_length h.2
    simp only [flat, List.flatMap_cons, List.length_append, List.length_cons, Nat.add_mul, Nat.one_mul] at *
    simp only [Array.length_toList]
    omega
  | [], _ :: _, h => h.elim
  | _ :: _, [], h => h.elim
theorem Rs.flat_one : ∀ {us : List Value} {l : List α}, Rs M w us l → ∀ u ∈ flat us, u.oneCell' = true
  | [], [], _, u, h => by simp [flat] at h
  | y :: us, x :: xs, h, u, hu => by
    simp only [flat, List.flatMap_cons, List.mem_append] at hu
    rcases hu with hu | hu
    · exact Rep.one h.1 u hu
    · exact Rs.flat_one h.2 u hu
  | [], _ :: _, h, _, _ => h.elim
  | _ :: _, [], h, _, _ => h.elim
theorem Rs.flat_get : ∀ {us : List Value} {l : List α}, Rs M w us l → ∀ {i : Nat} {u : Value}, us[i]? = some u → ∀ (j : Nat) (c : Value), u.cells.toList[j]? = some c → (flat us)[i * Rep.sz α + j]? = some c
  | [], [], _, i, u, h, _, _, _ => by simp at h
  | y :: us, x :: xs, h, 0, u, hu, j, c, hc => by
    simp at hu; subst hu
    have hj := (List.getElem?_eq_some_iff.1 hc).1
    simp only [flat, List.flatMap_cons, Nat.zero_mul, Nat.zero_add]
    rw [List.getElem?_append_left hj]; exact hc
  | y :: us, x :: xs, h, i + 1, u, hu, j, c, hc => by
    have h1 := Rep.size h.1
    have h2 := Rs.flat_get h.2 (i := i) (u := u) (by simpa using hu) j c hc
    simp only [flat, List.flatMap_cons]
    rw [List.getElem?_append_right (by simp [h1, Nat.add_mul]; omega)]
    simp only [Array.length_toList, h1]
    rw [show (i + 1) * Rep.sz α + j - Rep.sz α = i * Rep.sz α + j by rw [Nat.add_mul]; omega]
    exact h2
  | [], _ :: _, h, _, _, _, _, _, _ => h.elim
  | _ :: _, [], h, _, _, _, _, _, _ => h.elim
end
/-- A slice of the call's own (its block from B on, and in M), that holds these things. -/
structure OwnSl {α : Type} [Rep α] (e B : Nat) (M : Nat → Prop) (w : World) (v : Value) (l : List α) : Prop where
  row : ∃ us, w.ownsRow B e (Rep.sz α) v l.length (flat us) ∧ Rs M w us l
  inM : ∀ b, v.ownBlock = some b → M b
section
variable {α : Type} [Rep α] {e B : Nat} {M M' : Nat → Prop} {w w' : World} {v : Value} {l : List α}
theorem own_nil : OwnSl e B M w (.slice none 0 0) ([] : List α) := ⟨⟨[], by simpa [flat] using World.ownsRow_nil w B e (Rep.sz α), trivial⟩, by simp [Value.ownBlock]⟩
theorem OwnSl.val (h : OwnSl e B M w v l) : ∃ a cap, v = .slice a l.length cap ∧ l.length ≤ cap := by
  obtain ⟨us, hr, _⟩ := h.row
  rcases hr.2 with ⟨rfl, h0⟩ | ⟨g, cap, cur, rfl, _, _, hc, _⟩
  · exact ⟨none, 0, by rw [h0], by omega⟩
  · exact ⟨_, cap, rfl, hc⟩
theorem OwnSl.sp (h : OwnSl e B M w v l) (s : Stp B M M' w w') (hb : ∀ b, v.ownBlock = some b → w'.heap[b]? = w.heap[b]?) : OwnSl e B M' w' v l := by
  obtain ⟨us, hr, hs⟩ := h.row
  refine ⟨⟨us, ⟨hr.1, ?_⟩, Rs.upd (Rs.wk hs s.wk) ⟨s.upd.1, fun b hb hn => s.upd.2 b hb (fun hm => hn (s.sub b hm))⟩⟩, fun b hv => s.sub b (h.inM b hv)⟩
  rcases hr.2 with hn | ⟨g, cap, cur, rfl, hB, hg, rest⟩
  · exact .inl hn
  · exact .inr ⟨g, cap, cur, rfl, hB, (hb g rfl).trans hg, rest⟩
theorem OwnSl.lt (h : OwnSl e B M w v l) : ∀ b, v.ownBlock = some b → B ≤ b ∧ b < w.heap.size := by
  obtain ⟨us, hr, _⟩ := h.row
  exact hr.lt
theorem OwnSl.Y (h : OwnSl e B M w v l) (hl : Low M w) (hB : B ≤ w.heap.size) (x : Ext w w') : OwnSl e B M w' v l :=
  h.sp (Stp.Y x hl hB) (fun b hb => x.block b (h.lt b hb).2)
theorem OwnSl.sl (h : OwnSl e B M w v l) (hl : l.length < 140737488355328) {M0 : Nat → Prop} (h0 : ∀ b, M0 b → b < B) (hsub : ∀ b, M0 b → M b) : Sl M0 w v l := by
  obtain ⟨us, hr, hs⟩ := h.row
  have hlt := hr.lt
  rcases hr.2 with ⟨rfl, hn⟩ | ⟨g, cap, cur, rfl, hB, hg, hc, _, _, htake⟩
  · have : l = [] := List.eq_nil_of_length_eq_zero hn
    subst this
    exact sl_nil
  · refine ⟨_, cap, rfl, hl, hc, .inr ⟨g, 0, rfl, fun i x hx => ?_⟩⟩
    obtain ⟨u, hu, hR⟩ := hs.get hx
    refine ⟨u, Rep.wk hR (fun b _ hb => hsub b hb), (hlt g rfl).2, fun hm => by have := h0 g hm; omega, fun j c hc => ?_⟩
    have := hr.cells (g := g) rfl (i * Rep.sz α + j) c (hs.flat_get hu j c hc)
    rw [addr_add] at this
    rwa [show 0 + i * Rep.sz α + j = 0 + (i * Rep.sz α + j) by omega]
end
theorem Stp.z {B k : Nat} {M M' : Nat → Prop} {w w' : World} (s : Stp B M M' w w') (h : k ≤ w.heap.size) : k ≤ w'.heap.size := Nat.le_trans h s.upd.1
theorem Stp.sb {B : Nat} {M M' M0 : Nat → Prop} {w w' : World} (s : Stp B M M' w w') (h : ∀ b, M0 b → M b) : ∀ b, M0 b → M' b := fun b hb => s.sub b (h b hb)
open Go Go.RowKit
/-! ## Small laws -/
theorem flat_append (us vs : List Value) : flat (us ++ vs) = flat us ++ flat vs := by simp [flat]
theorem zipIdx_of : ∀ (ps : List (Nat × Value)) (k : Nat), ps.map (·.1) = List.range' k ps.length → ((ps.map (·.2)).zipIdx k).map (fun x => (x.2, x.1)) = ps
  | [], _, _ => rfl
  | (i, v) :: r, k, h => by
    simp only [List.map_cons, List.length_cons, List.range'_succ, List.cons.injEq] at h
    obtain ⟨rfl, h2⟩ := h
    simp only [List.map_cons, List.zipIdx_cons, zipIdx_of r (i + 1) h2]
theorem run_buildSlice_all {P : Program} {T : Tab} (hT : TabOk P T) {t e : TypeId} {ti te : TI} (ht : T.get t = some ti) (htd : ti.d = .sl e) (hte : T.get e = some te) (hsz : 0 < te.size)
    (ps : Array (Nat × Value)) (hp : ps.toList.map (·.1) = List.range' 0 ps.toList.length) (hs : ∀ v ∈ ps.toList.map (·.2), v.cells.size = te.size) (hk : ps.toList.length * te.size ≤ 16777216) (w : World) :
    (Instr.buildSlice t ps.toList.length ps).run P w = .ok (.slice (some ⟨w.heap.size, 0, none⟩) ps.toList.length ps.toList.length) (w.alloc (.cells (flat (ps.toList.map (·.2))).toArray e)) := by
  have hd := (hT t ti ht).d
  rw [htd] at hd
  simp only [TD.Ok] at hd
  have hk' : ¬ (16777216 < ps.toList.length * te.size) := by omega
  simp only [Instr.buildSlice, Sem.run_bind, run_underlying hd, Result.andThen_ok, run_sizeOf hT hte]
  rw [if_neg hk']
  by_cases h0 : ps.toList.length * te.size = 0
  · have := Great.fill_whole hsz (ps.toList.map (·.2)) ((Array.range (ps.toList.length * te.size)).map ((#[] : Array Value)[· % (#[] : Array Value).size]!)) hs (by simp)
    rw [zipIdx_of _ _ hp] at this
    simp only [if_pos h0, Sem.run_bind, Sem.run_pure, Result.andThen_ok]
    rw [this]
    simp [newRow, flat]
  · have := Great.fill_whole hsz (ps.toList.map (·.2)) ((Array.range (ps.toList.length * te.size)).map (te.zero.cells[· % te.zero.cells.size]!)) hs (by simp)
    rw [zipIdx_of _ _ hp] at this
    simp only [if_neg h0, Sem.run_bind, Sem.run_pure, Result.andThen_ok, run_zeroValue' hT hte]
    rw [this]
    simp [newRow, flat]
theorem Rs.sizes {α : Type} [Rep α] {M : Nat → Prop} {w : World} : ∀ {us : List Value} {l : List α}, Rs M w us l → ∀ v ∈ us, v.cells.size = Rep.sz α
  | [], [], _, v, hv => by cases hv
  | _ :: _, _ :: _, h, v, hv => by
    rcases List.mem_cons.1 hv with rfl | hv
    · exact Rep.size h.1
    · exact Rs.sizes h.2 v hv
  | [], _ :: _, h, _, _ => h.elim
  | _ :: _, [], h, _, _ => h.elim
section
variable {P : Program} {T : Tab} {n : Nat} {ops : Array Oper} {Q : Exit → Act → World → Prop} {G : Env} {w : World} {K : Env → World → Prop}
  {d ty : Nat} {pos : String} {af : Array Go.Edge} {g : Option (Nat × Bool)}
theorem o_bs {t e k : Nat} {ps : Array (Nat × Operand)} {vs : List Value} {ti te : TI} (hT : TabOk P T) (hv : Env.evs G (ps.toList.map (·.2)) = some vs) (hp : ps.toList.map (·.1) = List.range' 0 k) (hlen : ps.toList.length = k)
    (ht : T.get t = some ti) (htd : ti.d = .sl e) (hte : T.get e = some te) (hsz : Nat.blt 0 te.size = true) (hs : ∀ v ∈ vs, v.cells.size = te.size) (hk : Nat.ble (k * te.size) 16777216 = true)
    (hg : gd ops G ⟨some d, .buildSlice t k ps, ty, pos, af, g⟩ = some true) (hdn : Nat.blt d n = true)
    (h : ∀ b w', b = w.heap.size → Ext w w' → Box w' b e (flat vs) → K ((d, .slice (some ⟨b, 0, none⟩) k k) :: G) w') : OW P n ops Q G w ⟨some d, .buildSlice t k ps, ty, pos, af, g⟩ K := by
  subst hlen
  refine o_val (w' := w.alloc (.cells (flat vs).toArray e)) hg rfl hdn (fun a ha => ?_) (h w.heap.size _ rfl (ext_alloc _ _) ⟨heap_alloc_new w _⟩)
  have e2 : (ps.map fun (i, x) => (i, a.eval x)).toList.map (·.2) = vs := by
    rw [← ha.evs hv]; simp [List.map_map, Function.comp_def]
  have e1 : (ps.map fun (i, x) => (i, a.eval x)).toList.map (·.1) = List.range' 0 (ps.map fun (i, x) => (i, a.eval x)).toList.length := by
    simp only [Array.toList_map, List.map_map, List.length_map]
    rw [← hp]; rfl
  have hr := run_buildSlice_all hT ht htd hte (Nat.le_of_ble_eq_true hsz) (ps.map fun (i, x) => (i, a.eval x)) e1 (by rw [e2]; exact hs) (by simpa using Nat.le_of_ble_eq_true hk) w
  rw [e2] at hr
  simp only [Array.toList_map, List.length_map, Array.length_toList] at hr
  simp [execOp, hr]
/-! ## append -/
theorem run_app {P : Program} {T : Tab} (hT : TabOk P T) {t tx e ty : TypeId} {ti te : TI} (ht : T.get t = some ti) (htd : ti.d = .sl e) (hte : T.get e = some te) {α : Type} [Rep α] (hrs : te.size = Rep.sz α) (hz : te.zero.cells.size = te.size)
    {B : Nat} {M : Nat → Prop} {w : World} {v : Value} {l k : List α} {us : List Value} (hown : OwnSl e B M w v l) {x : Value} (hsrc : Src P te.size tx x k.length (flat us) w) (hus : Rs M w us k) (hl : Low M w) (hB : B ≤ w.heap.size)
    (h63 : l.length + k.length < 140737488355328) (hbytes : (l.length + k.length) * te.bytes ≤ 140737488355328) :
    ∃ v' w' M', (Builtin.append_ #[t, tx] ty #[v, x]).run P w = .ok v' w' ∧ OwnSl e B M' w' v' (l ++ k) ∧ Stp B M M' w w' ∧ (∀ b, b < w.heap.size → some b ≠ v.ownBlock → w'.heap[b]? = w.heap[b]?) ∧
      (∀ b, v'.ownBlock = some b → v.ownBlock = some b ∨ w.heap.size ≤ b) := by
  obtain ⟨i, h1, h2, h3, h4⟩ := (hT e te hte).info
  have hd := (hT t ti ht).d
  rw [htd] at hd
  simp only [TD.Ok] at hd
  obtain ⟨vs, hr, hrv⟩ := hown.row
  have hpos : 0 < te.size := by rw [hrs]; exact Rep.pos
  have hfl : (flat us).length = k.length * te.size := by rw [hus.flat_length, hrs]
  have hfv : (flat vs).length = l.length * te.size := by rw [hrv.flat_length, hrs]
  -- a new block
  have grow : ∀ (old : Nat), old < l.length + k.length → (hrun : (Builtin.append_ #[t, tx] ty #[v, x]).run P w =
        .ok (.slice (some ⟨w.heap.size, 0, none⟩) (l.length + k.length) (grownCap w (l.length + k.length) old e)) (w.drew.alloc (.cells ((flat vs ++ flat us).toArray ++ Builtin.zeroCells te.zero.cells (grownCap w (l.length + k.length) old e - (l.length + k.length))) e))) →
      ∃ v' w' M', (Builtin.append_ #[t, tx] ty #[v, x]).run P w = .ok v' w' ∧ OwnSl e B M' w' v' (l ++ k) ∧ Stp B M M' w w' ∧ (∀ b, b < w.heap.size → some b ≠ v.ownBlock → w'.heap[b]? = w.heap[b]?) ∧
      (∀ b, v'.ownBlock = some b → v.ownBlock = some b ∨ w.heap.size ≤ b) := by
    intro old ho hrun
    have hge := grownCap_ge w (l.length + k.length) old e
    have hcm : grownCap w (l.length + k.length) old e ≤ maxLen := grownCap_le_maxLen w _ old e (by simp only [maxLen]; omega)
    have hext : Ext w (w.drew.alloc (.cells ((flat vs ++ flat us).toArray ++ Builtin.zeroCells te.zero.cells (grownCap w (l.length + k.length) old e - (l.length + k.length))) e)) :=
      (ext_drew w).then (ext_alloc w.drew _)
    have hst := Stp.add (B := B) (M := M) (b := w.heap.size) hext hl hB (lR _) (by simp)
    refine ⟨_, _, Add M w.heap.size, hrun, ⟨⟨vs ++ us, ⟨?_, .inr ⟨w.heap.size, _, _, ?_, hB, heap_alloc_new w.drew _, ?_, hcm, ?_, ?_⟩⟩, ?_⟩, ?_⟩, hst, fun b hb _ => hext.block b hb, ?_⟩
    · rw [flat_append, List.length_append, hfl, hfv, List.length_append, ← hrs, Nat.add_mul]
    · rw [List.length_append]
    · rw [List.length_append]; exact hge
    · simp only [Array.size_append, List.size_toArray, size_zeroCells, hz, List.length_append, hfl, hfv, ← Nat.add_mul, ← hrs]
      congr 1
      omega
    · rw [flat_append]
      simp only [Array.toList_append, List.length_append, ← hrs]
      have : (l.length + k.length) * te.size = (flat vs ++ flat us).length := by rw [List.length_append, hfl, hfv, Nat.add_mul]
      rw [this]
      exact List.take_left
    · exact Rs.append (Rs.upd (Rs.wk hrv hst.wk) (hext.upd _)) (Rs.upd (Rs.wk hus hst.wk) (hext.upd _))
    · intro b hb; simp [Value.ownBlock] at hb; exact .inr hb.symm
    · intro b hb; simp [Value.ownBlock] at hb; exact .inr (by omega)
  rcases hr.2 with ⟨rfl, hn⟩ | ⟨g, cap, cur, rfl, hbg, hgg, hnc, hcm, hcs, htake⟩
  · have hl0 : l = [] := List.eq_nil_of_length_eq_zero hn
    subst hl0
    have hv0 : flat vs = [] := List.eq_nil_of_length_eq_zero (by simpa using hfv)
    by_cases hk0 : k.length = 0
    · have hk' : k = [] := List.eq_nil_of_length_eq_zero hk0
      subst hk'
      have hu0 : flat us = [] := List.eq_nil_of_length_eq_zero (by simpa using hfl)
      refine ⟨.slice none 0 0, w, M, ?_, own_nil, Stp.refl hl, fun _ _ _ => rfl, by simp [Value.ownBlock]⟩
      have hc := hsrc.cells
      rw [hu0] at hc
      simp only [List.length_nil] at hc
      rcases hsrc.kind with ⟨e', hkk⟩ | hkk <;> simp [Builtin.append_, run_underlying hd, run_underlying hkk, Go.sizeOf, typeInfo, h1, hsrc.len, h2, hc]
    · refine grow 0 (by simp; omega) ?_
      have := run_append_grow_src (P := P) w t tx ty e i te.zero hd h1 h4 none 0 0 [] (by simp [Builtin.firstCells]) x k.length (flat us) (by rw [h2]; exact hsrc) (by omega) (by omega) (by rw [h3]; exact growslice_fits (by omega) (by simpa using hbytes))
      rw [hv0]
      simpa using this
  · by_cases hroom : l.length + k.length ≤ cap
    · have hfit : l.length * te.size + (flat us).length ≤ cur.size := by
        rw [hfl, hcs, ← hrs, ← Nat.add_mul]; exact Nat.mul_le_mul_right _ hroom
      have hst := run_storeCells_at P g (l.length * te.size) e (flat us) 0 cur w hgg (by simpa using hfit) hsrc.one
      simp only [Nat.add_zero] at hst
      have hrun : (Builtin.append_ #[t, tx] ty #[.slice (some ⟨g, 0, none⟩) l.length cap, x]).run P w = .ok (.slice (some ⟨g, 0, none⟩) (l.length + k.length) cap)
          (w.setRow g (cur.toList.take (l.length * te.size) ++ flat us ++ cur.toList.drop (l.length * te.size + (flat us).length)).toArray) := by
        have hc := hsrc.cells
        rcases hsrc.kind with ⟨e', hkk⟩ | hkk <;>
          simp [Builtin.append_, run_underlying hd, run_underlying hkk, Go.sizeOf, typeInfo, h1, hsrc.len, hroom, h2, hc, Addr.add_lit, hst]
      have hg : M g := hown.inM g rfl
      have hupd : Upd M w (w.setRow g (cur.toList.take (l.length * te.size) ++ flat us ++ cur.toList.drop (l.length * te.size + (flat us).length)).toArray) :=
        ⟨by simp, fun b hb hn => setRow_other w g b _ (fun e => hn (e ▸ hg))⟩
      refine ⟨_, _, M, hrun, ⟨⟨vs ++ us, ⟨?_, .inr ⟨g, cap, _, ?_, hbg, setRow_heap w g cur _ e _ hgg, ?_, hcm, ?_, ?_⟩⟩, ?_⟩, hown.inM⟩, ⟨hupd, fun _ _ h => h, fun _ h => h, fun b hb => by simpa using hl b hb, ⟨rfl, rfl, rfl, by simp, fun b hb => setRow_other w g b _ (by omega)⟩⟩,
        fun b hb hn => setRow_other w g b _ (fun e => hn (by simp [Value.ownBlock, e])), ?_⟩
      · rw [flat_append, List.length_append, hfl, hfv, List.length_append, ← hrs, Nat.add_mul]
      · rw [List.length_append]
      · rw [List.length_append]; exact hroom
      · simp only [List.size_toArray, List.length_append, List.length_take, List.length_drop, Array.length_toList]
        omega
      · rw [flat_append, ← htake]
        simp only [List.length_append, ← hrs]
        have h0 : (cur.toList.take (l.length * te.size)).length = l.length * te.size := by
          have hct : cur.toList.length = cap * te.size := by rw [hrs]; simpa using hcs
          have hle : l.length * te.size ≤ cap * te.size := Nat.mul_le_mul_right _ hnc
          rw [List.length_take, hct, Nat.min_eq_left hle]
        have : (l.length + k.length) * te.size = (cur.toList.take (l.length * te.size) ++ flat us).length := by rw [List.length_append, h0, hfl, Nat.add_mul]
        rw [this]
        exact List.take_left
      · exact Rs.append (Rs.upd hrv hupd) (Rs.upd hus hupd)
      · intro b hb; exact .inl hb
    · refine grow cap (by omega) ?_
      have holds : ∀ j u, (flat vs)[j]? = some u → w.drew.cell? ((⟨g, 0, none⟩ : Addr).add j) = some u := fun j u hj => by simpa using hr.cells (g := g) rfl j u hj
      have := run_append_grow_src (P := P) w t tx ty e i te.zero hd h1 h4 (some ⟨g, 0, none⟩) l.length cap (flat vs) (run_firstCells_some w.drew i.size l.length _ _ _ _ (by rw [hfv, h2]) holds) x k.length (flat us) (by rw [h2]; exact hsrc) (by omega) (by omega) (by rw [h3]; exact growslice_fits (by omega) hbytes)
      exact this
theorem src_sl {P : Program} {T : Tab} (hT : TabOk P T) {t e : TypeId} {ti te : TI} (ht : T.get t = some ti) (htd : ti.d = .sl e) {α : Type} [Rep α] (hrs : te.size = Rep.sz α) {M : Nat → Prop} {w : World} {x : Value} {k : List α} (h : Sl M w x k) :
    ∃ us, Src P te.size t x k.length (flat us) w ∧ Rs M w us k := by
  have hd := (hT t ti ht).d
  rw [htd] at hd
  simp only [TD.Ok] at hd
  obtain ⟨a, cap, rfl, _, _, he⟩ := h
  rcases he with rfl | ⟨b, off, rfl, hel⟩
  · refine ⟨[], ⟨.inl ⟨e, hd⟩, fun _ => rfl, ?_, ?_, by simp [flat], by simp [flat]⟩, trivial⟩ <;>
      cases a <;> simp [Builtin.firstCells, flat, loadCells, loadCellsFrom]
  · -- the elements' values, one by one
    have : ∀ (m : Nat) (hm : m ≤ k.length), ∃ us, Rs M w us (k.drop (k.length - m)) ∧ ∀ (i : Nat) (u : Value), us[i]? = some u → At M w b (off + (k.length - m + i) * Rep.sz α) u.cells.toList := by
      intro m
      induction m with
      | zero => intro _; exact ⟨[], by simp [Rs], by simp⟩
      | succ m ih =>
        intro hm
        obtain ⟨us, h1, h2⟩ := ih (by omega)
        obtain ⟨x, hx⟩ : ∃ x, k[k.length - (m + 1)]? = some x := ⟨_, gE (by omega)⟩
        obtain ⟨u, hu, hat⟩ := hel _ _ hx
        refine ⟨u :: us, ?_, ?_⟩
        · have e1 : k.drop (k.length - (m + 1)) = x :: k.drop (k.length - m) := by
            obtain ⟨hlt, rfl⟩ := List.getElem?_eq_some_iff.1 hx
            rw [List.drop_eq_getElem_cons hlt]
            congr 2
            omega
          rw [e1]
          exact ⟨hu, h1⟩
        · intro i y hy
          cases i with
          | zero => simp at hy; subst hy; exact hat
          | succ i =>
            have := h2 i y (by simpa using hy)
            rwa [show k.length - (m + 1) + (i + 1) = k.length - m + i by omega]
    obtain ⟨us, hus, hat⟩ := this k.length (lR _)
    simp only [Nat.sub_self, List.drop_zero, Nat.zero_add] at hus hat
    refine ⟨us, Src.ofSlice w hd ⟨b, off, none⟩ k.length cap (flat us) (by rw [hus.flat_length, hrs]) (fun j u hj => ?_) hus.flat_one, hus⟩
    -- cell j of the flat list
    have hs : ∀ v ∈ us, v.cells.size = Rep.sz α := hus.sizes
    have := Great.flat_get Rep.pos us hs j
    unfold flat at hj
    rw [this] at hj
    cases hu : us[j / Rep.sz α]? with
    | none => rw [hu] at hj; cases hj
    | some y =>
      rw [hu] at hj
      have hc := (hat _ _ hu).cell (j % Rep.sz α) u (by simpa using hj)
      rw [addr_add]
      rwa [show off + j = off + j / Rep.sz α * Rep.sz α + j % Rep.sz α by have := Nat.div_add_mod j (Rep.sz α); rw [Nat.mul_comm] at this; omega]
theorem o_app {t e B : Nat} {x y : Operand} {ti te : TI} {M : Nat → Prop} {α : Type} [Rep α] {v u : Value} {l k : List α} (hT : TabOk P T) (hown : OwnSl e B M w v l) (hsl : Sl M w u k) (hl : Low M w) (hB : B ≤ w.heap.size)
    (hx : Env.ev G x = some v) (hy : Env.ev G y = some u) (ht : T.get t = some ti) (htd : ti.d = .sl e) (hte : T.get e = some te) (hrs : te.size = Rep.sz α) (hz : te.zero.cells.size = te.size)
    (h63 : l.length + k.length < 140737488355328) (hbytes : (l.length + k.length) * te.bytes ≤ 140737488355328)
    (hg : gd ops G ⟨some d, .call ⟨.builtin .append, #[x, y], #[t, t]⟩, ty, pos, af, g⟩ = some true) (hdn : Nat.blt d n = true)
    (h : ∀ v' w' M', OwnSl e B M' w' v' (l ++ k) → Stp B M M' w w' → (∀ b, b < w.heap.size → some b ≠ v.ownBlock → w'.heap[b]? = w.heap[b]?) → (∀ b, v'.ownBlock = some b → v.ownBlock = some b ∨ w.heap.size ≤ b) → K ((d, v') :: G) w') :
    OW P n ops Q G w ⟨some d, .call ⟨.builtin .append, #[x, y], #[t, t]⟩, ty, pos, af, g⟩ K := by
  obtain ⟨us, hsrc, hus⟩ := src_sl (te := te) hT ht htd hrs hsl
  obtain ⟨v', w', M', hrun, h1, h2, h3, h4⟩ := run_app (ty := ty) hT ht htd hte hrs hz hown hsrc hus hl hB h63 hbytes
  refine o_val (w' := w') hg rfl hdn (fun a ha => ?_) (h v' w' M' h1 h2 h3 h4)
  simp [execOp, resolve, invoke, builtin, ha.ev hx, ha.ev hy, hrun]
theorem o_app1 {t e B b : Nat} {x y : Operand} {ti te : TI} {M : Nat → Prop} {α : Type} [Rep α] {v u : Value} {l : List α} {z : α} (hT : TabOk P T) (hown : OwnSl e B M w v l) (hb : Box w b e (flat [u])) (hbM : ¬ M b) (hR : Rep.R M w u z) (hl : Low M w) (hB : B ≤ w.heap.size)
    (hx : Env.ev G x = some v) (hy : Env.ev G y = some (.slice (some ⟨b, 0, none⟩) 1 1)) (ht : T.get t = some ti) (htd : ti.d = .sl e) (hte : T.get e = some te) (hrs : te.size = Rep.sz α) (hz : te.zero.cells.size = te.size)
    (h63 : l.length + 1 < 140737488355328) (hbytes : (l.length + 1) * te.bytes ≤ 140737488355328)
    (hg : gd ops G ⟨some d, .call ⟨.builtin .append, #[x, y], #[t, t]⟩, ty, pos, af, g⟩ = some true) (hdn : Nat.blt d n = true)
    (h : ∀ v' w' M', OwnSl e B M' w' v' (l ++ [z]) → Stp B M M' w w' → (∀ b, b < w.heap.size → some b ≠ v.ownBlock → w'.heap[b]? = w.heap[b]?) → (∀ b, v'.ownBlock = some b → v.ownBlock = some b ∨ w.heap.size ≤ b) → K ((d, v') :: G) w') :
    OW P n ops Q G w ⟨some d, .call ⟨.builtin .append, #[x, y], #[t, t]⟩, ty, pos, af, g⟩ K := by
  have hsl : Sl M w (.slice (some ⟨b, 0, none⟩) 1 1) [z] := by
    refine ⟨_, 1, rfl, by simp, by simp, .inr ⟨b, 0, rfl, fun i y hy => ?_⟩⟩
    cases i with
    | zero =>
      simp at hy; subst hy
      refine ⟨u, hR, ?_⟩
      have := hb.at hbM
      simpa [flat] using this
    | succ i => simp at hy
  exact o_app hT hown hsl hl hB hx hy ht htd hte hrs hz h63 hbytes hg hdn h
theorem lit_sl {α : Type} [Rep α] {e b : Nat} {M : Nat → Prop} {w : World} {us : List Value} {l : List α} (hb : Box w b e (flat us)) (hbM : ¬ M b) (hR : Rs M w us l) (hl : l.length < 140737488355328) : Sl M w (.slice (some ⟨b, 0, none⟩) l.length l.length) l := by
  refine ⟨_, l.length, rfl, hl, lR _, .inr ⟨b, 0, rfl, fun i x hx => ?_⟩⟩
  obtain ⟨u, hu, hx⟩ := hR.get hx
  refine ⟨u, hx, hb.lt, hbM, fun j c hc => ?_⟩
  have := hb.cell (i * Rep.sz α + j) c (hR.flat_get hu j c hc)
  rwa [show 0 + i * Rep.sz α + j = 0 + (i * Rep.sz α + j) by omega]
/-! ## Stores -/
theorem run_store_row {P : Program} {T : Tab} (hT : TabOk P T) {t : TypeId} {ti : TI} (ht : T.get t = some ti) {w : World} {b E j : Nat} {cs : Array Value} (hh : w.heap[b]? = some (.cells cs E (0, 0))) {v : Value} (hv : v.cells.size = ti.size) (ho : ∀ u ∈ v.cells.toList, u.oneCell' = true)
    (hj : j + v.cells.size ≤ cs.size) : (storeVar t ⟨b, j, none⟩ v).run P w = .ok () (w.setRow b (cs.toList.take j ++ v.cells.toList ++ cs.toList.drop (j + v.cells.size)).toArray) := by
  have := run_storeCells_at P b j E v.cells.toList 0 cs w hh (by simpa using hj) ho
  simp only [Nat.add_zero, Array.length_toList] at this
  simp [storeVar, run_sizeOf hT ht, hv, this]
theorem o_st {t : Nat} {x y : Operand} {ti : TI} {b j E : Nat} {cs : List Value} {v : Value} (hT : TabOk P T) (hb : Box w b E cs) (hx : Env.ev G x = some (.pointer (some ⟨b, j, none⟩))) (hy : Env.ev G y = some v) (ht : T.get t = some ti)
    (hv : v.cells.size = ti.size) (ho : ∀ u ∈ v.cells.toList, u.oneCell' = true) (hj : Nat.ble (j + ti.size) cs.length = true)
    (hg : gd ops G ⟨none, .store t x y, ty, pos, af, g⟩ = some true)
    (h : ∀ w', Box w' b E (cs.take j ++ v.cells.toList ++ cs.drop (j + v.cells.toList.length)) → Upd (fun z => z = b) w w' → (∀ B, B ≤ b → Below B w w') → K G w') : OW P n ops Q G w ⟨none, .store t x y, ty, pos, af, g⟩ K := by
  have hj' : j + v.cells.size ≤ cs.toArray.size := by rw [hv]; simpa using Nat.le_of_ble_eq_true hj
  have hrun := run_store_row hT ht hb.heap hv ho hj'
  refine o_unit (w' := w.setRow b (cs.take j ++ v.cells.toList ++ cs.drop (j + v.cells.size)).toArray) hg rfl (fun a ha => ?_) (h _ ⟨?_⟩ ⟨by simp, fun k _ hk => setRow_other w b k _ hk⟩ (fun B hB => ⟨rfl, rfl, rfl, by simp, fun k hk => setRow_other w b k _ (by omega)⟩))
  · simp [execOp, ha.ev hx, ha.ev hy, Instr.storeAt, Instr.sureAddr, hrun]
  · rw [setRow_heap w b _ _ E _ hb.heap, Array.length_toList]
theorem Upd.sp {B b : Nat} {M : Nat → Prop} {w w' : World} (h : Upd (fun z => z = b) w w') (hM : M b) (hl : Low M w) (hb : ∀ B, B ≤ b → Below B w w') (hB : B ≤ b) : Stp B M M w w' :=
  ⟨⟨h.1, fun x hx hn => h.2 x hx (fun e => hn (e ▸ hM))⟩, fun _ _ h => h, fun _ h => h, fun x hx => lT (hl x hx) h.1, hb B hB⟩
theorem sz1 {s : Nat} {x : Value} (h : x.cells.size = s) : ∀ v ∈ [x], v.cells.size = s := by simpa using h
theorem sz2 {s : Nat} {x y : Value} (h : x.cells.size = s) (k : y.cells.size = s) : ∀ v ∈ [x, y], v.cells.size = s := by simp [h, k]
/-- Cells of a slice of the call's own, now. -/
structure OAt (w : World) (b off : Nat) (cs : List Value) : Prop where
  cell : ∀ j v, cs[j]? = some v → w.cell? ⟨b, off + j, none⟩ = some v
theorem own_lit {α : Type} [Rep α] {e B b : Nat} {M : Nat → Prop} {us : List Value} {l : List α} (hb : Box w b e (flat us)) (hR : Rs M w us l) (hM : M b) (hB : B ≤ b) (hl : l.length ≤ maxLen) : OwnSl e B M w (.slice (some ⟨b, 0, none⟩) l.length l.length) l :=
  ⟨⟨us, ⟨hR.flat_length, .inr ⟨b, l.length, _, rfl, hB, hb.heap, lR _, hl, by simp [hR.flat_length], by rw [List.toList_toArray, ← hR.flat_length, List.take_length]⟩⟩, hR⟩, fun x hx => by simp [Value.ownBlock] at hx; subst hx; exact hM⟩
theorem ob_eq {b o l c x : Nat} (h : (Value.slice (some ⟨b, o, none⟩) l c).ownBlock = some x) : b = x := by simpa [Value.ownBlock] using h
theorem own_litS {α : Type} [Rep α] {e B b : Nat} {M : Nat → Prop} {w w' : World} {us : List Value} {l : List α} (s : Stp B M (Add M b) w w') (hb : Box w' b e (flat us)) (hR : Rs (Add M b) w' us l) (q : b = w.heap.size) (hB : B ≤ w.heap.size) (hl : l.length ≤ maxLen) : OwnSl e B (Add M b) w' (.slice (some ⟨b, 0, none⟩) l.length l.length) l :=
  let _ := s; own_lit hb hR (.inr rfl) (by omega) hl
theorem At.sl {α : Type} [Rep α] {M M' : Nat → Prop} {b o : Nat} {v : Value} {l : List α} (h : At M w b o v.cells.toList) (hs : Sl M' w v l) : At M w b o [v] := by
  rw [hs.cells] at h; exact h
theorem o_lenO {α : Type} [Rep α] {e B : Nat} {M : Nat → Prop} {v : Value} {l : List α} {t : TypeId} {x : Operand} {ti : TI} {e' : Nat} (hT : TabOk P T) (hs : OwnSl e B M w v l) (hx : Env.ev G x = some v) (ht : T.get t = some ti) (htd : ti.d = .sl e')
    (hg : gd ops G ⟨some d, .call ⟨.builtin .len, #[x], #[t]⟩, ty, pos, af, g⟩ = some true) (hdn : Nat.blt d n = true) (h : K ((d, .int .i64 (l.length : Int)) :: G) w) :
    OW P n ops Q G w ⟨some d, .call ⟨.builtin .len, #[x], #[t]⟩, ty, pos, af, g⟩ K := by
  obtain ⟨a, c, rfl, _⟩ := hs.val
  obtain ⟨td, _, _, _⟩ := ti
  simp only at htd
  subst htd
  exact o_p hT (by simp [pureS, hx, ht]) hg hdn h
theorem o_ixO {t e B : Nat} {x i : Operand} {k : IntKind} {z : Int} {j : Nat} {α : Type} [Rep α] {M : Nat → Prop} {v : Value} {l : List α} {y : α} {ti te : TI} (hT : TabOk P T) (hs : OwnSl e B M w v l) (hy : l[j]? = some y) (hx : Env.ev G x = some v) (hi : Env.ev G i = some (.int k z)) (hj : z = (j : Int))
    (ht : T.get t = some ti) (htd : ti.d = .sl e) (hte : T.get e = some te) (hsz : te.size = Rep.sz α)
    (hg : gd ops G ⟨some d, .indexAddr t x i, ty, pos, af, g⟩ = some true) (hdn : Nat.blt d n = true)
    (h : ∀ b u, v.ownBlock = some b → Rep.R M w u y → OAt w b (j * te.size) u.cells.toList → K ((d, .pointer (some ⟨b, j * te.size, none⟩)) :: G) w) : OW P n ops Q G w ⟨some d, .indexAddr t x i, ty, pos, af, g⟩ K := by
  obtain ⟨us, hr, hrs⟩ := hs.row
  have hlt : j < l.length := (List.getElem?_eq_some_iff.1 hy).1
  obtain ⟨u, hu, hR⟩ := hrs.get hy
  rcases hr.2 with ⟨rfl, hn⟩ | ⟨b, cap, cur, rfl, _, _, _⟩
  · omega
  · refine o_ix hT hx hi ht htd hte hj hlt hg hdn ?_
    rw [Nat.zero_add]
    refine h b u rfl hR ⟨fun c q hc => ?_⟩
    have := hr.cells (g := b) rfl (j * Rep.sz α + c) q (hrs.flat_get hu c q hc)
    rw [addr_add, Nat.zero_add] at this
    rw [hsz]; exact this
theorem Rs.set {α : Type} [Rep α] {M : Nat → Prop} {w : World} : ∀ {us : List Value} {l : List α}, Rs M w us l → ∀ (j : Nat) {u : Value} {y : α}, Rep.R M w u y → Rs M w (us.set j u) (l.set j y)
  | [], [], _, _, _, _, _ => trivial
  | _ :: _, _ :: _, h, 0, _, _, hr => ⟨hr, h.2⟩
  | _ :: _, _ :: _, h, j + 1, _, _, hr => ⟨h.1, Rs.set h.2 j hr⟩
  | [], _ :: _, h, _, _, _, _ => h.elim
  | _ :: _, [], h, _, _, _, _ => h.elim
theorem flat_set {s : Nat} : ∀ (us : List Value), (∀ v ∈ us, v.cells.size = s) → ∀ (j : Nat) (u : Value), j < us.length → u.cells.size = s →
    flat (us.set j u) = (flat us).take (j * s) ++ u.cells.toList ++ (flat us).drop (j * s + s)
  | [], _, j, u, hj, _ => by simp at hj
  | y :: ys, h, 0, u, _, hu => by
    have hy : y.cells.toList.length = s := by simpa using h y List.mem_cons_self
    simp only [List.set_cons_zero, flat, List.flatMap_cons, Nat.zero_mul, List.take_zero, List.nil_append, Nat.zero_add]
    rw [List.drop_append_of_le_length (by omega), List.drop_of_length_le (by omega), List.nil_append]
  | y :: ys, h, j + 1, u, hj, hu => by
    have hy : y.cells.toList.length = s := by simpa using h y List.mem_cons_self
    have ih := flat_set ys (fun v hv => h v (List.mem_cons_of_mem _ hv)) j u (by simpa using hj) hu
    simp only [List.set_cons_succ]
    have e1 : flat (y :: ys.set j u) = y.cells.toList ++ flat (ys.set j u) := by simp [flat]
    have e2 : flat (y :: ys) = y.cells.toList ++ flat ys := by simp [flat]
    rw [e1, e2, ih, Nat.add_mul, Nat.one_mul]
    have t1 : List.take (j * s + s) y.cells.toList = y.cells.toList := List.take_of_length_le (by rw [hy]; omega)
    have t2 : List.drop (j * s + s + s) y.cells.toList = [] := List.drop_of_length_le (by rw [hy]; omega)
    rw [List.take_append, List.drop_append, t1, t2, hy]
    rw [show j * s + s - s = j * s by omega, show j * s + s + s - s = j * s + s by omega]
    simp
theorem take_splice (c u : List Value) (j m : Nat) (h1 : j + u.length ≤ m) (h2 : m ≤ c.length) :
    (c.take j ++ u ++ c.drop (j + u.length)).take m = c.take j ++ u ++ (c.take m).drop (j + u.length) := by
  have e1 : (c.take j).length = j := by rw [List.length_take]; omega
  have t1 : (c.take j).take m = c.take j := List.take_of_length_le (by rw [e1]; omega)
  have t2 : u.take (m - j) = u := List.take_of_length_le (by omega)
  rw [List.append_assoc, List.take_append, t1, e1, List.take_append, t2, List.drop_take, List.append_assoc]
  congr 3
  omega
theorem o_stO {t e B : Nat} {x y : Operand} {b o j : Nat} {α : Type} [Rep α] {M : Nat → Prop} {v u : Value} {l : List α} {z : α} {te : TI} (hT : TabOk P T) (hs : OwnSl e B M w v l) (hb : v.ownBlock = some b) (hj : j < l.length) (hR : Rep.R M w u z) (hl : Low M w)
    (hx : Env.ev G x = some (.pointer (some ⟨b, o, none⟩))) (ho : o = j * te.size) (hy : Env.ev G y = some u) (ht : T.get t = some te) (hsz : te.size = Rep.sz α)
    (hg : gd ops G ⟨none, .store t x y, ty, pos, af, g⟩ = some true)
    (h : ∀ w', OwnSl e B M w' v (l.set j z) → Stp B M M w w' → (∀ k, k < w.heap.size → k ≠ b → w'.heap[k]? = w.heap[k]?) → K G w') : OW P n ops Q G w ⟨none, .store t x y, ty, pos, af, g⟩ K := by
  obtain ⟨us, hr, hrs⟩ := hs.row
  subst ho
  rcases hr.2 with ⟨rfl, hn⟩ | ⟨b', cap, cur, rfl, hB, hh, hnc, hcm, hcs, htake⟩
  · omega
  simp only [Value.ownBlock, Option.some.injEq] at hb
  subst hb
  have husz : u.cells.size = te.size := by rw [hsz]; exact Rep.size hR
  have hlen : us.length = l.length := hrs.length
  have hle : (j + 1) * te.size ≤ l.length * te.size := Nat.mul_le_mul_right _ hj
  have hle2 : l.length * te.size ≤ cap * te.size := Nat.mul_le_mul_right _ hnc
  rw [Nat.add_mul, Nat.one_mul] at hle
  have hfit : j * te.size + u.cells.size ≤ cur.size := by rw [husz, hcs, ← hsz]; omega
  have hrun := run_store_row hT ht hh husz (Rep.one hR) hfit
  have hM := hs.inM b' rfl
  refine o_unit (w' := w.setRow b' (cur.toList.take (j * te.size) ++ u.cells.toList ++ cur.toList.drop (j * te.size + u.cells.size)).toArray) hg rfl (fun a ha => ?_)
    (h _ ⟨⟨us.set j u, ⟨?_, .inr ⟨b', cap, _, ?_, hB, setRow_heap w b' cur _ e _ hh, ?_, hcm, ?_, ?_⟩⟩, ?_⟩, hs.inM⟩ ?_ (fun k _ hk => setRow_other w b' k _ hk))
  · simp [execOp, ha.ev hx, ha.ev hy, Instr.storeAt, Instr.sureAddr, hrun]
  · have := (hrs.set j hR).flat_length
    rw [this]
  · rw [List.length_set]
  · rw [List.length_set]; exact hnc
  · simp only [List.size_toArray, List.length_append, List.length_take, List.length_drop, Array.length_toList]
    omega
  · rw [List.length_set, flat_set us hrs.sizes j u (by omega) (by rw [husz, hsz]), ← htake]
    rw [hsz] at hle hle2 hfit husz
    simp only [hsz, husz]
    have hct : cur.toList.length = cap * Rep.sz α := by simpa using hcs
    have hul : u.cells.toList.length = Rep.sz α := by simpa using husz
    have hml : (j + 1) * Rep.sz α ≤ l.length * Rep.sz α := Nat.mul_le_mul_right _ hj
    rw [Nat.add_mul, Nat.one_mul] at hml
    have := take_splice cur.toList u.cells.toList (j * Rep.sz α) (l.length * Rep.sz α) (by rw [hul]; exact hml) (by rw [hct]; exact hle2)
    rw [hul] at this
    rw [this, List.take_take, Nat.min_eq_left (by omega)]
  · exact Rs.set (Rs.upd hrs ⟨by simp, fun k _ hk => setRow_other w b' k _ (fun e => hk (e ▸ hM))⟩) j (Rep.upd hR ⟨by simp, fun k _ hk => setRow_other w b' k _ (fun e => hk (e ▸ hM))⟩)
  · exact ⟨⟨by simp, fun k _ hk => setRow_other w b' k _ (fun e => hk (e ▸ hM))⟩, fun _ _ h => h, fun _ h => h, fun k hk => by simpa using hl k hk, ⟨rfl, rfl, rfl, by simp, fun k hk => setRow_other w b' k _ (by omega)⟩⟩
end
open Go Go.RowKit
/-- A struct's cells with some fields put in; a field: its place, its size. -/
def fillL (pl : List (Nat × Nat)) : List Value → List (Nat × List Value) → Option (List Value)
  | cells, [] => some cells
  | cells, (i, cs) :: r => match pl[i]? with
    | none => none
    | some (off, size) => bif Nat.beq cs.length size && Nat.ble (off + cs.length) cells.length then fillL pl (cells.take off ++ cs ++ cells.drop (off + cs.length)) r else none
theorem splice_fold (off : Nat) (l : List Value) (cs : Array Value) (h : off + l.length ≤ cs.size) :
    ((l.zipIdx 0).foldl (fun cs (x : Value × Nat) => cs.setIfInBounds (off + x.2) x.1) cs) = (cs.toList.take off ++ l ++ cs.toList.drop (off + l.length)).toArray := by
  obtain ⟨h1, h2⟩ := Great.foldl_set off l 0 cs
  apply Array.ext_getElem?
  intro k
  rw [h2 k]
  simp only [Nat.add_zero, List.getElem?_toArray]
  by_cases hk : k < off
  · rw [if_neg (by omega), List.append_assoc, List.getElem?_append_left (by simp; omega), List.getElem?_take]
    simp [hk]
  · by_cases hk2 : k < off + l.length
    · rw [if_pos ⟨by omega, hk2, by omega⟩, List.append_assoc, List.getElem?_append_right (by simp; omega)]
      have e : (cs.toList.take off).length = off := by simp; omega
      rw [e, List.getElem?_append_left (by omega)]
    · rw [if_neg (by omega), List.getElem?_append_right (by simp; omega)]
      have e : (cs.toList.take off ++ l).length = off + l.length := by simp; omega
      rw [e, List.getElem?_drop]
      simp only [Array.getElem?_toList]
      congr 1
      omega
theorem fill_L {place : Nat → Option (Nat × Nat)} {pl : List (Nat × Nat)} (hpl : ∀ i, place i = pl[i]?) : ∀ (ps : List (Nat × Value)) (cells : Array Value) (r : List Value),
    fillL pl cells.toList (ps.map fun p => (p.1, p.2.cells.toList)) = some r → Instr.fill place cells ps = some r.toArray
  | [], cells, r, h => by
    simp [fillL] at h
    subst h
    simp [Instr.fill]
  | (i, v) :: ps, cells, r, h => by
    simp only [List.map_cons, fillL] at h
    unfold Instr.fill
    rw [hpl]
    cases hi : pl[i]? with
    | none => rw [hi] at h; simp at h
    | some p =>
      obtain ⟨off, size⟩ := p
      rw [hi] at h
      simp only at h ⊢
      cases hc : (Nat.beq v.cells.toList.length size && Nat.ble (off + v.cells.toList.length) cells.toList.length) with
      | false => rw [hc] at h; simp at h
      | true =>
        rw [hc] at h
        simp only [cond_true] at h
        rw [Bool.and_eq_true] at hc
        have h1 : v.cells.size = size := by have := Nat.eq_of_beq_eq_true hc.1; simpa using this
        have h2 : off + v.cells.size ≤ cells.size := by have := Nat.le_of_ble_eq_true hc.2; simpa using this
        rw [if_neg (by simp [h1]; omega)]
        have e := splice_fold off v.cells.toList cells (by simpa using h2)
        have e2 : v.cells.zipIdx.foldl (fun cs (x : Value × Nat) => cs.setIfInBounds (off + x.2) x.1) cells = ((v.cells.toList.zipIdx 0).foldl (fun cs (x : Value × Nat) => cs.setIfInBounds (off + x.2) x.1) cells) := by
          rw [← Array.foldl_toList, Array.toList_zipIdx]
        show Instr.fill place (v.cells.zipIdx.foldl (fun cs (x : Value × Nat) => cs.setIfInBounds (off + x.2) x.1) cells) ps = _
        rw [e2, e]
        exact fill_L hpl ps _ r (by simpa using h)
/-- A struct type's fields lie so, and its zero value is so. -/
def BuildOk (P : Program) (t : TypeId) (zero : List Value) (pl : List (Nat × Nat)) : Prop :=
  ∀ (parts : Array (Nat × Value)) (cells : Array Value) (w : World), Instr.fill (fun x => pl[x]?) (Value.agg zero.toArray).cells parts.toList = some cells → (Instr.build t parts).run P w = .ok (.agg cells) w
section
variable {P : Program} {T : Tab} {n : Nat} {ops : Array Oper} {Q : Exit → Act → World → Prop} {G : Env} {w : World} {K : Env → World → Prop}
  {d ty : Nat} {pos : String} {af : Array Go.Edge} {g : Option (Nat × Bool)}
theorem run_build {t : Nat} {ps : Array (Nat × Operand)} {vs : List Value} {css : List (List Value)} {zero cells : List Value} {pl : List (Nat × Nat)} (hb : BuildOk P t zero pl) (hv : Env.evs G (ps.toList.map (·.2)) = some vs) (hcs : vs.map (·.cells.toList) = css)
    (hf : fillL pl zero ((ps.toList.map (·.1)).zip css) = some cells) {a : Act} (ha : Models n a G) (w : World) : (execOp a.eval ⟨some d, .build t ps, ty, pos, af, g⟩).run P w = .ok (.value (.agg cells.toArray)) w := by
  have he := ha.evs hv
  have hparts : (ps.map fun (i, x) => (i, a.eval x)).toList = (ps.toList.map (·.1)).zip vs := by
    rw [← he]
    simp only [Array.toList_map, List.map_map]
    rw [List.zip_map']
    rfl
  have hfill : Instr.fill (fun x => pl[x]?) (Value.agg zero.toArray).cells (ps.map fun (i, x) => (i, a.eval x)).toList = some cells.toArray := by
    refine fill_L (pl := pl) (fun i => rfl) _ _ _ ?_
    rw [hparts]
    subst hcs
    have e : ((ps.toList.map (·.1)).zip vs).map (fun p => (p.1, p.2.cells.toList)) = (ps.toList.map (·.1)).zip (vs.map (·.cells.toList)) := by
      rw [List.zip_map_right]
      rfl
    rw [e]
    exact hf
  have := hb _ _ w hfill
  simp [execOp, this]
theorem o_build {t : Nat} {ps : Array (Nat × Operand)} {vs : List Value} {css : List (List Value)} {zero cells : List Value} {pl : List (Nat × Nat)} (hb : BuildOk P t zero pl) (hv : Env.evs G (ps.toList.map (·.2)) = some vs) (hcs : vs.map (·.cells.toList) = css)
    (hf : fillL pl zero ((ps.toList.map (·.1)).zip css) = some cells)
    (hg : gd ops G ⟨some d, .build t ps, ty, pos, af, g⟩ = some true) (hdn : Nat.blt d n = true) (h : K ((d, .agg cells.toArray) :: G) w) : OW P n ops Q G w ⟨some d, .build t ps, ty, pos, af, g⟩ K :=
  o_val hg rfl hdn (fun _ ha => run_build hb hv hcs hf ha w) h
end
end Rw
namespace Go.Proofs.Ytpoahmeacjggfaa
open Go Rw
set_option maxRecDepth 100000
theorem ti2 : TIOk Try.prog 2 ⟨.int .i64, 1, 8, .int .i64 0⟩ := ⟨⟨_, rfl, rfl, rfl, rfl⟩, Try.underlying2⟩
theorem ti3 : TIOk Try.prog 3 ⟨.int .i64, 1, 8, .int .i64 0⟩ := ⟨⟨_, rfl, rfl, rfl, rfl⟩, Try.underlying3⟩
theorem ti4 : TIOk Try.prog 4 ⟨.bool, 1, 1, .bool false⟩ := ⟨⟨_, rfl, rfl, rfl, rfl⟩, Try.underlying4⟩
theorem ti5 : TIOk Try.prog 5 ⟨.int .u8, 1, 1, .int .u8 0⟩ := ⟨⟨_, rfl, rfl, rfl, rfl⟩, Try.underlying5⟩
theorem ti9 : TIOk Try.prog 9 ⟨.str, 1, 16, .string ⟨#[]⟩⟩ := ⟨⟨_, rfl, rfl, rfl, rfl⟩, Try.underlying9⟩
theorem ti22 : TIOk Try.prog 22 ⟨.int .u8, 1, 1, .int .u8 0⟩ := ⟨⟨_, rfl, rfl, rfl, rfl⟩, Try.underlying22⟩
theorem ti23 : TIOk Try.prog 23 ⟨.sl 25, 1, 24, .slice none 0 0⟩ := ⟨⟨_, rfl, rfl, rfl, rfl⟩, Try.underlying23⟩
theorem ti25 : TIOk Try.prog 25 ⟨.st [(0, 22), (1, 9), (2, 3), (3, 23)], 4, 56, .agg #[.int .u8 0, .string ⟨#[]⟩, .int .i64 0, .slice none 0 0]⟩ := ⟨⟨_, rfl, rfl, rfl, rfl⟩, ⟨_, Try.underlying25, rfl, ⟨⟨_, _, rfl, rfl, rfl, rfl, rfl⟩, ⟨⟨_, _, rfl, rfl, rfl, rfl, rfl⟩, ⟨⟨_, _, rfl, rfl, rfl, rfl, rfl⟩, ⟨⟨_, _, rfl, rfl, rfl, rfl, rfl⟩, trivial⟩⟩⟩⟩⟩⟩
theorem ti30 : TIOk Try.prog 30 ⟨.sl 32, 1, 24, .slice none 0 0⟩ := ⟨⟨_, rfl, rfl, rfl, rfl⟩, Try.underlying30⟩
theorem ti32 : TIOk Try.prog 32 ⟨.st [(0, 9), (1, 25)], 5, 72, .agg #[.string ⟨#[]⟩, .int .u8 0, .string ⟨#[]⟩, .int .i64 0, .slice none 0 0]⟩ := ⟨⟨_, rfl, rfl, rfl, rfl⟩, ⟨_, Try.underlying32, rfl, ⟨⟨_, _, rfl, rfl, rfl, rfl, rfl⟩, ⟨⟨_, _, rfl, rfl, rfl, rfl, rfl⟩, trivial⟩⟩⟩⟩
theorem ti33 : TIOk Try.prog 33 ⟨.fn, 1, 8, .nilFunc⟩ := ⟨⟨_, rfl, rfl, rfl, rfl⟩, ⟨_, _, _, Try.underlying33⟩⟩
theorem ti46 : TIOk Try.prog 46 ⟨.sl 3, 1, 24, .slice none 0 0⟩ := ⟨⟨_, rfl, rfl, rfl, rfl⟩, Try.underlying46⟩
theorem ti49 : TIOk Try.prog 49 ⟨.fn, 1, 8, .nilFunc⟩ := ⟨⟨_, rfl, rfl, rfl, rfl⟩, ⟨_, _, _, Try.underlying49⟩⟩
theorem ti50 : TIOk Try.prog 50 ⟨.sl 5, 1, 24, .slice none 0 0⟩ := ⟨⟨_, rfl, rfl, rfl, rfl⟩, Try.underlying50⟩
theorem ti57 : TIOk Try.prog 57 ⟨.sl 59, 1, 24, .slice none 0 0⟩ := ⟨⟨_, rfl, rfl, rfl, rfl⟩, Try.underlying57⟩
theorem ti59 : TIOk Try.prog 59 ⟨.st [(0, 22), (1, 9), (2, 9), (3, 2), (4, 4), (5, 25), (9, 57)], 10, 136, .agg #[.int .u8 0, .string ⟨#[]⟩, .string ⟨#[]⟩, .int .i64 0, .bool false, .int .u8 0, .string ⟨#[]⟩, .int .i64 0, .slice none 0 0, .slice none 0 0]⟩ := ⟨⟨_, rfl, rfl, rfl, rfl⟩, ⟨_, Try.underlying59, rfl, ⟨⟨_, _, rfl, rfl, rfl, rfl, rfl⟩, ⟨⟨_, _, rfl, rfl, rfl, rfl, rfl⟩, ⟨⟨_, _, rfl, rfl, rfl, rfl, rfl⟩, ⟨⟨_, _, rfl, rfl, rfl, rfl, rfl⟩, ⟨⟨_, _, rfl, rfl, rfl, rfl, rfl⟩, ⟨⟨_, _, rfl, rfl, rfl, rfl, rfl⟩, ⟨⟨_, _, rfl, rfl, rfl, rfl, rfl⟩, trivial⟩⟩⟩⟩⟩⟩⟩⟩⟩
theorem ti63 : TIOk Try.prog 63 ⟨.fn, 1, 8, .nilFunc⟩ := ⟨⟨_, rfl, rfl, rfl, rfl⟩, ⟨_, _, _, Try.underlying63⟩⟩
theorem ti68 : TIOk Try.prog 68 ⟨.mp 3 4, 1, 8, .map none⟩ := ⟨⟨_, rfl, rfl, rfl, rfl⟩, Try.underlying68⟩
theorem ti69 : TIOk Try.prog 69 ⟨.mp 3 4, 1, 8, .map none⟩ := ⟨⟨_, rfl, rfl, rfl, rfl⟩, Try.underlying69⟩
theorem ti77 : TIOk Try.prog 77 ⟨.st [(0, 3), (1, 4)], 2, 16, .agg #[.int .i64 0, .bool false]⟩ := ⟨⟨_, rfl, rfl, rfl, rfl⟩, ⟨_, Try.underlying77, rfl, ⟨⟨_, _, rfl, rfl, rfl, rfl, rfl⟩, ⟨⟨_, _, rfl, rfl, rfl, rfl, rfl⟩, trivial⟩⟩⟩⟩
theorem ti79 : TIOk Try.prog 79 ⟨.st [(0, 33), (1, 33)], 2, 16, .agg #[.nilFunc, .nilFunc]⟩ := ⟨⟨_, rfl, rfl, rfl, rfl⟩, ⟨_, Try.underlying79, rfl, ⟨⟨_, _, rfl, rfl, rfl, rfl, rfl⟩, ⟨⟨_, _, rfl, rfl, rfl, rfl, rfl⟩, trivial⟩⟩⟩⟩
theorem ti81 : TIOk Try.prog 81 ⟨.mp 3 3, 1, 8, .map none⟩ := ⟨⟨_, rfl, rfl, rfl, rfl⟩, Try.underlying81⟩
theorem ti87 : TIOk Try.prog 87 ⟨.st [(0, 50)], 1, 24, .agg #[.slice none 0 0]⟩ := ⟨⟨_, rfl, rfl, rfl, rfl⟩, ⟨_, Try.underlying87, rfl, ⟨⟨_, _, rfl, rfl, rfl, rfl, rfl⟩, trivial⟩⟩⟩
theorem ti99 : TIOk Try.prog 99 ⟨.fn, 1, 8, .nilFunc⟩ := ⟨⟨_, rfl, rfl, rfl, rfl⟩, ⟨_, _, _, Try.underlying99⟩⟩
theorem ti104 : TIOk Try.prog 104 ⟨.ptr 87, 1, 8, .pointer none⟩ := ⟨⟨_, rfl, rfl, rfl, rfl⟩, Try.underlying104⟩
theorem ti106 : TIOk Try.prog 106 ⟨.sl 9, 1, 24, .slice none 0 0⟩ := ⟨⟨_, rfl, rfl, rfl, rfl⟩, Try.underlying106⟩
theorem ti115 : TIOk Try.prog 115 ⟨.st [(0, 4), (1, 4), (2, 3), (3, 3)], 4, 24, .agg #[.bool false, .bool false, .int .i64 0, .int .i64 0]⟩ := ⟨⟨_, rfl, rfl, rfl, rfl⟩, ⟨_, Try.underlying115, rfl, ⟨⟨_, _, rfl, rfl, rfl, rfl, rfl⟩, ⟨⟨_, _, rfl, rfl, rfl, rfl, rfl⟩, ⟨⟨_, _, rfl, rfl, rfl, rfl, rfl⟩, ⟨⟨_, _, rfl, rfl, rfl, rfl, rfl⟩, trivial⟩⟩⟩⟩⟩⟩
theorem ti125 : TIOk Try.prog 125 ⟨.int .u64, 1, 8, .int .u64 0⟩ := ⟨⟨_, rfl, rfl, rfl, rfl⟩, Try.underlying125⟩
def tb : Tab := [(2, ⟨.int .i64, 1, 8, .int .i64 0⟩), (3, ⟨.int .i64, 1, 8, .int .i64 0⟩), (4, ⟨.bool, 1, 1, .bool false⟩), (5, ⟨.int .u8, 1, 1, .int .u8 0⟩), (9, ⟨.str, 1, 16, .string ⟨#[]⟩⟩), (22, ⟨.int .u8, 1, 1, .int .u8 0⟩), (23, ⟨.sl 25, 1, 24, .slice none 0 0⟩), (25, ⟨.st [(0, 22), (1, 9), (2, 3), (3, 23)], 4, 56, .agg #[.int .u8 0, .string ⟨#[]⟩, .int .i64 0, .slice none 0 0]⟩), (30, ⟨.sl 32, 1, 24, .slice none 0 0⟩), (32, ⟨.st [(0, 9), (1, 25)], 5, 72, .agg #[.string ⟨#[]⟩, .int .u8 0, .string ⟨#[]⟩, .int .i64 0, .slice none 0 0]⟩), (33, ⟨.fn, 1, 8, .nilFunc⟩), (46, ⟨.sl 3, 1, 24, .slice none 0 0⟩), (49, ⟨.fn, 1, 8, .nilFunc⟩), (50, ⟨.sl 5, 1, 24, .slice none 0 0⟩), (57, ⟨.sl 59, 1, 24, .slice none 0 0⟩), (59, ⟨.st [(0, 22), (1, 9), (2, 9), (3, 2), (4, 4), (5, 25), (9, 57)], 10, 136, .agg #[.int .u8 0, .string ⟨#[]⟩, .string ⟨#[]⟩, .int .i64 0, .bool false, .int .u8 0, .string ⟨#[]⟩, .int .i64 0, .slice none 0 0, .slice none 0 0]⟩), (63, ⟨.fn, 1, 8, .nilFunc⟩), (68, ⟨.mp 3 4, 1, 8, .map none⟩), (69, ⟨.mp 3 4, 1, 8, .map none⟩), (77, ⟨.st [(0, 3), (1, 4)], 2, 16, .agg #[.int .i64 0, .bool false]⟩), (79, ⟨.st [(0, 33), (1, 33)], 2, 16, .agg #[.nilFunc, .nilFunc]⟩), (81, ⟨.mp 3 3, 1, 8, .map none⟩), (87, ⟨.st [(0, 50)], 1, 24, .agg #[.slice none 0 0]⟩), (99, ⟨.fn, 1, 8, .nilFunc⟩), (104, ⟨.ptr 87, 1, 8, .pointer none⟩), (106, ⟨.sl 9, 1, 24, .slice none 0 0⟩), (115, ⟨.st [(0, 4), (1, 4), (2, 3), (3, 3)], 4, 24, .agg #[.bool false, .bool false, .int .i64 0, .int .i64 0]⟩), (125, ⟨.int .u64, 1, 8, .int .u64 0⟩)]
theorem tK : TabOk Try.prog tb := tab_cons ti2 (tab_cons ti3 (tab_cons ti4 (tab_cons ti5 (tab_cons ti9 (tab_cons ti22 (tab_cons ti23 (tab_cons ti25 (tab_cons ti30 (tab_cons ti32 (tab_cons ti33 (tab_cons ti46 (tab_cons ti49 (tab_cons ti50 (tab_cons ti57 (tab_cons ti59 (tab_cons ti63 (tab_cons ti68 (tab_cons ti69 (tab_cons ti77 (tab_cons ti79 (tab_cons ti81 (tab_cons ti87 (tab_cons ti99 (tab_cons ti104 (tab_cons ti106 (tab_cons ti115 (tab_cons ti125 (tab_nil))))))))))))))))))))))))))))
theorem fo14 : FnOk Try.prog 14 := ⟨⟨_, _, Try.func14, by decide, rfl⟩⟩
theorem fo15 : FnOk Try.prog 15 := ⟨⟨_, _, Try.func15, by decide, rfl⟩⟩
theorem fo16 : FnOk Try.prog 16 := ⟨⟨_, _, Try.func16, by decide, rfl⟩⟩
theorem fo17 : FnOk Try.prog 17 := ⟨⟨_, _, Try.func17, by decide, rfl⟩⟩
theorem fo18 : FnOk Try.prog 18 := ⟨⟨_, _, Try.func18, by decide, rfl⟩⟩
theorem fo19 : FnOk Try.prog 19 := ⟨⟨_, _, Try.func19, by decide, rfl⟩⟩
theorem fo21 : FnOk Try.prog 21 := ⟨⟨_, _, Try.func21, by decide, rfl⟩⟩
theorem fo22 : FnOk Try.prog 22 := ⟨⟨_, _, Try.func22, by decide, rfl⟩⟩
theorem fo23 : FnOk Try.prog 23 := ⟨⟨_, _, Try.func23, by decide, rfl⟩⟩
theorem fo25 : FnOk Try.prog 25 := ⟨⟨_, _, Try.func25, by decide, rfl⟩⟩
theorem fo28 : FnOk Try.prog 28 := ⟨⟨_, _, Try.func28, by decide, rfl⟩⟩
theorem fo29 : FnOk Try.prog 29 := ⟨⟨_, _, Try.func29, by decide, rfl⟩⟩
theorem fo31 : FnOk Try.prog 31 := ⟨⟨_, _, Try.func31, by decide, rfl⟩⟩
theorem fo33 : FnOk Try.prog 33 := ⟨⟨_, _, Try.func33, by decide, rfl⟩⟩
theorem fo34 : FnOk Try.prog 34 := ⟨⟨_, _, Try.func34, by decide, rfl⟩⟩
theorem fo36 : FnOk Try.prog 36 := ⟨⟨_, _, Try.func36, by decide, rfl⟩⟩
theorem fo43 : FnOk Try.prog 43 := ⟨⟨_, _, Try.func43, by decide, rfl⟩⟩
theorem fo44 : FnOk Try.prog 44 := ⟨⟨_, _, Try.func44, by decide, rfl⟩⟩
theorem fo45 : FnOk Try.prog 45 := ⟨⟨_, _, Try.func45, by decide, rfl⟩⟩
theorem fo53 : FnOk Try.prog 53 := ⟨⟨_, _, Try.func53, by decide, rfl⟩⟩
theorem fo63 : FnOk Try.prog 63 := ⟨⟨_, _, Try.func63, by decide, rfl⟩⟩
theorem fo64 : FnOk Try.prog 64 := ⟨⟨_, _, Try.func64, by decide, rfl⟩⟩
theorem fo65 : FnOk Try.prog 65 := ⟨⟨_, _, Try.func65, by decide, rfl⟩⟩
theorem fo66 : FnOk Try.prog 66 := ⟨⟨_, _, Try.func66, by decide, rfl⟩⟩
theorem fo67 : FnOk Try.prog 67 := ⟨⟨_, _, Try.func67, by decide, rfl⟩⟩
theorem fo68 : FnOk Try.prog 68 := ⟨⟨_, _, Try.func68, by decide, rfl⟩⟩
theorem fo69 : FnOk Try.prog 69 := ⟨⟨_, _, Try.func69, by decide, rfl⟩⟩
theorem fo70 : FnOk Try.prog 70 := ⟨⟨_, _, Try.func70, by decide, rfl⟩⟩
theorem fo71 : FnOk Try.prog 71 := ⟨⟨_, _, Try.func71, by decide, rfl⟩⟩
theorem fo72 : FnOk Try.prog 72 := ⟨⟨_, _, Try.func72, by decide, rfl⟩⟩
theorem fo73 : FnOk Try.prog 73 := ⟨⟨_, _, Try.func73, by decide, rfl⟩⟩
theorem fo79 : FnOk Try.prog 79 := ⟨⟨_, _, Try.func79, by decide, rfl⟩⟩
theorem fo80 : FnOk Try.prog 80 := ⟨⟨_, _, Try.func80, by decide, rfl⟩⟩
theorem fo81 : FnOk Try.prog 81 := ⟨⟨_, _, Try.func81, by decide, rfl⟩⟩
theorem fo93 : FnOk Try.prog 93 := ⟨⟨_, _, Try.func93, by decide, rfl⟩⟩
theorem fo94 : FnOk Try.prog 94 := ⟨⟨_, _, Try.func94, by decide, rfl⟩⟩
theorem fo95 : FnOk Try.prog 95 := ⟨⟨_, _, Try.func95, by decide, rfl⟩⟩
theorem fo96 : FnOk Try.prog 96 := ⟨⟨_, _, Try.func96, by decide, rfl⟩⟩
theorem fo97 : FnOk Try.prog 97 := ⟨⟨_, _, Try.func97, by decide, rfl⟩⟩
theorem fo98 : FnOk Try.prog 98 := ⟨⟨_, _, Try.func98, by decide, rfl⟩⟩
theorem fo99 : FnOk Try.prog 99 := ⟨⟨_, _, Try.func99, by decide, rfl⟩⟩
theorem fo100 : FnOk Try.prog 100 := ⟨⟨_, _, Try.func100, by decide, rfl⟩⟩
theorem fo101 : FnOk Try.prog 101 := ⟨⟨_, _, Try.func101, by decide, rfl⟩⟩
theorem fo118 : FnOk Try.prog 118 := ⟨⟨_, _, Try.func118, by decide, rfl⟩⟩
theorem fo119 : FnOk Try.prog 119 := ⟨⟨_, _, Try.func119, by decide, rfl⟩⟩
theorem fo120 : FnOk Try.prog 120 := ⟨⟨_, _, Try.func120, by decide, rfl⟩⟩
theorem fo121 : FnOk Try.prog 121 := ⟨⟨_, _, Try.func121, by decide, rfl⟩⟩
theorem fo122 : FnOk Try.prog 122 := ⟨⟨_, _, Try.func122, by decide, rfl⟩⟩
theorem fo123 : FnOk Try.prog 123 := ⟨⟨_, _, Try.func123, by decide, rfl⟩⟩
theorem fo124 : FnOk Try.prog 124 := ⟨⟨_, _, Try.func124, by decide, rfl⟩⟩
theorem fo131 : FnOk Try.prog 131 := ⟨⟨_, _, Try.func131, by decide, rfl⟩⟩
theorem fo132 : FnOk Try.prog 132 := ⟨⟨_, _, Try.func132, by decide, rfl⟩⟩
theorem fo133 : FnOk Try.prog 133 := ⟨⟨_, _, Try.func133, by decide, rfl⟩⟩
theorem fo134 : FnOk Try.prog 134 := ⟨⟨_, _, Try.func134, by decide, rfl⟩⟩
theorem fo135 : FnOk Try.prog 135 := ⟨⟨_, _, Try.func135, by decide, rfl⟩⟩
theorem fo138 : FnOk Try.prog 138 := ⟨⟨_, _, Try.func138, by decide, rfl⟩⟩
theorem fo139 : FnOk Try.prog 139 := ⟨⟨_, _, Try.func139, by decide, rfl⟩⟩
theorem bd25 : BuildOk Try.prog 25 [.int .u8 0, .string ⟨#[]⟩, .int .i64 0, .slice none 0 0] [(0, 1), (1, 1), (2, 1), (3, 1)] := by
  intro parts cells w h
  unfold Instr.build
  simp only [Sem.run_bind, run_zeroValue' tK (show tb.get 25 = _ from rfl), Result.andThen_ok, run_underlying Try.underlying25]
  simp [Rw.run_sizeOf tK (show tb.get 3 = _ from rfl), Rw.run_sizeOf tK (show tb.get 9 = _ from rfl), Rw.run_sizeOf tK (show tb.get 22 = _ from rfl), Rw.run_sizeOf tK (show tb.get 23 = _ from rfl), h]
theorem bd32 : BuildOk Try.prog 32 [.string ⟨#[]⟩, .int .u8 0, .string ⟨#[]⟩, .int .i64 0, .slice none 0 0] [(0, 1), (1, 4)] := by
  intro parts cells w h
  unfold Instr.build
  simp only [Sem.run_bind, run_zeroValue' tK (show tb.get 32 = _ from rfl), Result.andThen_ok, run_underlying Try.underlying32]
  simp [Rw.run_sizeOf tK (show tb.get 9 = _ from rfl), Rw.run_sizeOf tK (show tb.get 25 = _ from rfl), h]
theorem bd77 : BuildOk Try.prog 77 [.int .i64 0, .bool false] [(0, 1), (1, 1)] := by
  intro parts cells w h
  unfold Instr.build
  simp only [Sem.run_bind, run_zeroValue' tK (show tb.get 77 = _ from rfl), Result.andThen_ok, run_underlying Try.underlying77]
  simp [Rw.run_sizeOf tK (show tb.get 3 = _ from rfl), Rw.run_sizeOf tK (show tb.get 4 = _ from rfl), h]
end Go.Proofs.Ytpoahmeacjggfaa
namespace Rw
open Go Go.RowKit
/-- Keys: their values, compared at once. -/
class Key (κ : Type) where
  val : κ → Value
  fit : TypeDesc → Prop
  same : ∀ {d : TypeDesc}, fit d → ∀ x y : κ, ∃ b : Bool, Instr.sameNow d (val x) (val y) = some b ∧ (b = true ↔ x = y)
  bits : ∀ x : κ, Instr.sameBits 10000 (val x) (val x) = true
  chk : ∀ {P : Program} {t : TypeId} {d : TypeDesc}, P.underlying t = some d → fit d → ∀ (e : Bool) (x : κ) (w : World), (Instr.checkKey e 10000 t (val x)).run P w = .ok () w
instance : Key Int where
  val := fun n => .int .i64 n
  fit := fun d => d = .int .i64
  same := by
    rintro d rfl x y
    exact ⟨x == y, by simp [Instr.sameNow], by simp⟩
  bits := by intro x; unfold Instr.sameBits; simp
  chk := by
    rintro P t d hd rfl e x w
    show (Instr.checkKey e (9999 + 1) t _).run P w = _
    unfold Instr.checkKey
    simp [run_underlying hd]
/-- A map's block: its entries, in a row, are these. -/
structure MapL {κ ν : Type} [Key κ] (va : ν → Value) (w : World) (b : Nat) (l : List (κ × ν)) : Prop where
  ex : ∃ es clock, w.heap[b]? = some (.map es clock) ∧ es.toList.map (fun e => (e.key, e.val)) = l.map (fun p => (Key.val p.1, va p.2)) ∧ (∀ e ∈ es.toList, e.born < clock) ∧ (es.toList.map (·.born)).Nodup
  keys : (l.map (·.1)).Nodup
/-- What a map holds. -/
def getK {κ ν : Type} [DecidableEq κ] (l : List (κ × ν)) (k : κ) : Option ν := (l.find? (fun p => decide (p.1 = k))).map (·.2)
def putK {κ ν : Type} [DecidableEq κ] (l : List (κ × ν)) (k : κ) (v : ν) : List (κ × ν) := match l.findIdx? (fun p => decide (p.1 = k)) with
  | some i => l.set i (k, v)
  | none => l ++ [(k, v)]
section
variable {κ ν : Type} [Key κ] [DecidableEq κ] {va : ν → Value} {w w' : World} {b : Nat} {l : List (κ × ν)}
theorem MapL.lt {κ ν : Type} [Key κ] {va : ν → Value} {w : World} {b : Nat} {l : List (κ × ν)} (h : MapL va w b l) : b < w.heap.size := by
  obtain ⟨es, clock, hb, _⟩ := h.ex
  exact (Array.getElem?_eq_some_iff.1 hb).1
theorem MapL.keep {κ ν : Type} [Key κ] {va : ν → Value} {w w' : World} {b : Nat} {l : List (κ × ν)} (h : MapL va w b l) (e : w'.heap[b]? = w.heap[b]?) : MapL va w' b l := by
  obtain ⟨es, clock, hb, h2⟩ := h.ex
  exact ⟨⟨es, clock, e.trans hb, h2⟩, h.keys⟩
theorem MapL.Y {κ ν : Type} [Key κ] {va : ν → Value} {w w' : World} {b : Nat} {l : List (κ × ν)} (h : MapL va w b l) (e : Ext w w') : MapL va w' b l := h.keep (e.block b h.lt)
theorem findNow_spec {d : TypeDesc} (hd : Key.fit κ d) (k : κ) : ∀ (es : List MapEntry) (l : List (κ × ν)) (i : Nat), es.map (fun e => (e.key, e.val)) = l.map (fun p => (Key.val p.1, va p.2)) →
    Instr.findNow d (Key.val k) es i = some ((l.findIdx? (fun p => decide (p.1 = k))).bind fun j => (l[j]?).map fun p => (i + j, va p.2))
  | [], [], i, _ => by simp [Instr.findNow]
  | e :: es, p :: l, i, h => by
    simp only [List.map_cons, List.cons.injEq, Prod.mk.injEq] at h
    obtain ⟨⟨h1, h2⟩, h3⟩ := h
    unfold Instr.findNow
    rw [h1]
    obtain ⟨c, hc, hck⟩ := Key.same hd k p.1
    rw [hc, List.findIdx?_cons]
    cases c with
    | true =>
      have : p.1 = k := (hck.1 rfl).symm
      simp [this, h2]
    | false =>
      have hne : ¬ p.1 = k := fun e => by have := hck.2 e.symm; cases this
      simp only [hne, decide_false]
      rw [findNow_spec hd k es l (i + 1) h3]
      cases hf : l.findIdx? (fun p => decide (p.1 = k)) with
      | none => simp
      | some j => simp [Nat.add_assoc, Nat.add_comm 1 j]
  | [], _ :: _, _, h => by simp at h
  | _ :: _, [], _, h => by simp at h
theorem getK_idx {κ ν : Type} [DecidableEq κ] (l : List (κ × ν)) (k : κ) : getK l k = (l.findIdx? (fun p => decide (p.1 = k))).bind fun j => (l[j]?).map (·.2) := by
  induction l with
  | nil => rfl
  | cons p l ih =>
    unfold getK at ih ⊢
    rw [List.find?_cons, List.findIdx?_cons]
    by_cases h : p.1 = k
    · simp [h]
    · simp only [h, decide_false]
      rw [ih]
      cases hf : l.findIdx? (fun p => decide (p.1 = k)) with
      | none => simp
      | some j => simp
theorem find_run {P : Program} {t : TypeId} {d : TypeDesc} (hd : P.underlying t = some d) (hf : Key.fit κ d) (k : κ) (h : MapL va w b l) {es : Array MapEntry} {clock : Nat} (hb : w.heap[b]? = some (.map es clock)) :
    (Instr.findKey t (Key.val k) es.toList).run P w = .ok ((l.findIdx? (fun p => decide (p.1 = k))).bind fun j => (l[j]?).map fun p => (j, va p.2)) w := by
  obtain ⟨es', clock', hb', hl, _⟩ := h.ex
  rw [hb] at hb'
  cases hb'
  have := findNow_spec hf k es.toList l 0 hl
  simp only [Nat.zero_add] at this
  unfold Instr.findKey
  simp only [Sem.run_bind, run_underlying hd, Result.andThen_ok, this, Sem.run_pure]
theorem getK_put {κ ν : Type} [DecidableEq κ] (l : List (κ × ν)) (k : κ) (v : ν) (x : κ) : getK (putK l k v) x = if x = k then some v else getK l x := by
  unfold putK
  induction l with
  | nil => by_cases h : x = k <;> simp [getK, h, eq_comm]
  | cons p l ih =>
    rw [List.findIdx?_cons]
    by_cases hp : p.1 = k
    · simp only [hp, decide_true, if_true]
      unfold getK
      by_cases h : x = k
      · subst h; simp [hp]
      · have h' : ¬ k = x := fun e => h e.symm
        simp [hp, h, h']
    · simp only [hp, decide_false]
      have hput : getK (match (Option.map (· + 1) (l.findIdx? (fun p => decide (p.1 = k)))) with | some i => (p :: l).set i (k, v) | none => (p :: l) ++ [(k, v)]) x = getK (p :: (match l.findIdx? (fun p => decide (p.1 = k)) with | some i => l.set i (k, v) | none => l ++ [(k, v)])) x := by
        cases l.findIdx? (fun p => decide (p.1 = k)) with
        | none => rfl
        | some i => rfl
      simp only [Bool.false_eq_true, if_false]
      rw [hput]
      unfold getK at ih ⊢
      rw [List.find?_cons, List.find?_cons]
      by_cases h : p.1 = x
      · have : ¬ x = k := fun e => hp (h.trans e)
        simp [h, this]
      · simp only [h, decide_false]
        exact ih
end
section
variable {P : Program} {T : Tab} {n : Nat} {ops : Array Oper} {Q : Exit → Act → World → Prop} {G : Env} {w : World} {K : Env → World → Prop}
  {d ty : Nat} {pos : String} {af : Array Go.Edge} {g : Option (Nat × Bool)}
variable {κ ν : Type} [Key κ] [DecidableEq κ] {va : ν → Value} {b : Nat} {l : List (κ × ν)}
theorem o_mkmap {κ ν : Type} [Key κ] {va : ν → Value} {t : TypeId} (hg : gd ops G ⟨some d, .makeMap t none, ty, pos, af, g⟩ = some true) (hdn : Nat.blt d n = true)
    (h : ∀ b w', b = w.heap.size → Ext w w' → b < w'.heap.size → MapL va w' b ([] : List (κ × ν)) → K ((d, .map (some b)) :: G) w') : OW P n ops Q G w ⟨some d, .makeMap t none, ty, pos, af, g⟩ K := by
  refine o_val (w' := w.alloc (.map #[] 0)) hg rfl hdn (fun a _ => ?_) (h w.heap.size _ rfl (ext_alloc _ _) ?_ ⟨⟨#[], 0, heap_alloc_new w _, rfl, by simp, by simp⟩, by simp⟩)
  · simp [execOp, Instr.makeMap]
  · simp
theorem lookup_run {P : Program} {t tk te : TypeId} {ck : Bool} {z : ν} {dk : TypeDesc} (ht : P.underlying t = some (.map tk te)) (hk : P.underlying tk = some dk) (hf : Key.fit κ dk) (hz : (zeroValue te).run P w = .ok (va z) w)
    (hm : MapL va w b l) (k : κ) : (Instr.lookup t (.map (some b)) (Key.val k) ck).run P w = .ok (if ck then .tuple #[va ((getK l k).getD z), .bool (getK l k).isSome] else va ((getK l k).getD z)) w := by
  obtain ⟨es, clock, hb, hl, _⟩ := id hm.ex
  unfold Instr.lookup
  have hfr := find_run hk hf k hm hb
  simp only [Sem.run_bind, run_underlying ht, Result.andThen_ok]
  have hget := MapKept.run_getObj_map (P := P) hb
  simp only [Sem.run_bind, hget, Result.andThen_ok, Sem.run_pure, Key.chk hk hf, hfr]
  rw [getK_idx]
  cases hi : l.findIdx? (fun p => decide (p.1 = k)) with
  | none => cases ck <;> simp [hz]
  | some j =>
    have hj : j < l.length := by
      rw [List.findIdx?_eq_some_iff_getElem] at hi
      exact hi.choose
    cases ck <;> simp [gE hj]
theorem putK_keys {κ ν : Type} [DecidableEq κ] (l : List (κ × ν)) (k : κ) (v : ν) (h : (l.map (·.1)).Nodup) : ((putK l k v).map (·.1)).Nodup := by
  unfold putK
  cases hi : l.findIdx? (fun p => decide (p.1 = k)) with
  | some i =>
    rw [List.findIdx?_eq_some_iff_getElem] at hi
    obtain ⟨hil, h1, _⟩ := hi
    have h1' : l[i].1 = k := of_decide_eq_true h1
    have : (l.set i (k, v)).map (·.1) = l.map (·.1) := by
      rw [List.map_set]
      apply List.ext_getElem?
      intro j
      rw [List.getElem?_set]
      by_cases e : i = j
      · subst e; simp [hil, h1']
      · simp [e]
    simp only [this]
    exact h
  | none =>
    rw [List.findIdx?_eq_none_iff] at hi
    simp only [List.map_append, List.map_cons, List.map_nil]
    rw [List.nodup_append]
    refine ⟨h, by simp, fun x hx y hy => ?_⟩
    simp only [List.mem_singleton] at hy
    subst hy
    obtain ⟨p, hp, rfl⟩ := List.mem_map.1 hx
    have := hi p hp
    simpa using this
theorem update_run {P : Program} {t tk te : TypeId} {dk : TypeDesc} (ht : P.underlying t = some (.map tk te)) (hk : P.underlying tk = some dk) (hf : Key.fit κ dk) (hm : MapL va w b l) (k : κ) (v : ν) :
    ∃ w', (Instr.mapUpdate t (.map (some b)) (Key.val k) (va v)).run P w = .ok () w' ∧ MapL va w' b (putK l k v) ∧ Upd (fun z => z = b) w w' ∧ ∀ B, B ≤ b → Below B w w' := by
  obtain ⟨es, clock, hb, hl, hborn, hnd⟩ := id hm.ex
  have hlen : es.size = l.length := by have := congrArg List.length hl; simpa using this
  have hfr := find_run hk hf k hm hb
  have frame : ∀ o : Obj, Upd (fun z => z = b) w (ChangeMaps.setBlock w b o) ∧ ∀ B, B ≤ b → Below B w (ChangeMaps.setBlock w b o) := by
    intro o
    refine ⟨⟨by simp [ChangeMaps.setBlock], fun x _ hx => ChangeMaps.heap_setBlock_other hb o hx⟩, fun B hB => ⟨rfl, rfl, rfl, by simp [ChangeMaps.setBlock], fun x hx => ChangeMaps.heap_setBlock_other hb o (by omega)⟩⟩
  have hpk := putK_keys l k v hm.keys
  unfold putK at hpk ⊢
  cases hi : l.findIdx? (fun p => decide (p.1 = k)) with
  | none =>
    simp only [hi] at hfr hpk
    refine ⟨ChangeMaps.setBlock w b (.map (es.push ⟨Key.val k, va v, clock⟩) (clock + 1)), ?_, ⟨⟨_, _, ChangeMaps.heap_setBlock_same hb _, ?_, ?_, ?_⟩, hpk⟩, frame _⟩
    · simp [Instr.mapUpdate, run_underlying ht, MapKept.run_getObj_map hb, Key.chk hk hf, hfr, MapKept.run_setObj_map _ hb, Result.andThen, ChangeMaps.setBlock]
    · simp [hl]
    · intro e he
      simp only [Array.toList_push, List.mem_append, List.mem_singleton] at he
      rcases he with he | rfl
      · have := hborn e he; omega
      · exact Nat.lt_succ_self _
    · simp only [Array.toList_push, List.map_append, List.map_cons, List.map_nil]
      rw [List.nodup_append]
      refine ⟨hnd, by simp, fun x hx y hy => ?_⟩
      simp only [List.mem_singleton] at hy
      subst hy
      obtain ⟨e, he, rfl⟩ := List.mem_map.1 hx
      have := hborn e he
      omega
  | some i =>
    simp only [hi] at hfr hpk
    have hi' := hi
    rw [List.findIdx?_eq_some_iff_getElem] at hi'
    obtain ⟨hil, h1, _⟩ := hi'
    have h1' : l[i].1 = k := of_decide_eq_true h1
    have hie : i < es.size := by omega
    have hkey : es[i].key = Key.val k := by
      have := congrArg (fun m => m[i]?) hl
      simp [hie, hil] at this
      rw [this.1, h1']
    simp only [gE hil, Option.bind_some, Option.map_some] at hfr
    refine ⟨ChangeMaps.setBlock w b (.map (es.modify i fun e => { e with key := Key.val k, val := va v }) clock), ?_, ⟨⟨_, _, ChangeMaps.heap_setBlock_same hb _, ?_, ?_, ?_⟩, hpk⟩, frame _⟩
    · have hst : (Instr.keyThatStays (Key.val k) (Key.val k)).run P w = .ok (Key.val k) w := by simp [Instr.keyThatStays, Key.bits k]
      simp [Instr.mapUpdate, run_underlying ht, MapKept.run_getObj_map hb, Key.chk hk hf, hfr, MapKept.run_setObj_map _ hb, Result.andThen, ChangeMaps.setBlock, hie, hkey, hst]
    · apply List.ext_getElem?
      intro j
      have := congrArg (fun m => m[j]?) hl
      simp only [List.getElem?_map, Array.getElem?_toList] at this ⊢
      rw [List.getElem?_set, Array.getElem?_modify]
      by_cases e : i = j
      · subst e; simp [hie, hil]
      · simp only [e, if_false]; exact this
    · intro e he
      obtain ⟨j, hj, rfl⟩ := List.getElem_of_mem he
      have hj' : j < es.size := by simpa using hj
      have := hborn es[j] (by simp)
      simp only [Array.getElem_toList, Array.getElem_modify]
      split <;> exact this
    · have : ((es.modify i fun e => { e with key := Key.val k, val := va v }).toList.map (·.born)) = es.toList.map (·.born) := by
        apply List.ext_getElem?
        intro j
        simp only [List.getElem?_map, Array.getElem?_toList, Array.getElem?_modify]
        by_cases e : i = j
        · subst e; simp [hie]
        · simp [e]
      rw [this]; exact hnd
theorem o_mupd {t tk te : TypeId} {x y z : Operand} {ti : TI} (hT : TabOk P T) (hm : MapL va w b l) {k : κ} {v : ν} (hx : Env.ev G x = some (.map (some b))) (hy : Env.ev G y = some (Key.val k)) (hz : Env.ev G z = some (va v))
    (ht : T.get t = some ti) (htd : ti.d = .mp tk te) (htk : ∃ dk, P.underlying tk = some dk ∧ Key.fit κ dk)
    (hg : gd ops G ⟨none, .mapUpdate t x y z, ty, pos, af, g⟩ = some true)
    (h : ∀ w', MapL va w' b (putK l k v) → Upd (fun z => z = b) w w' → (∀ B, B ≤ b → Below B w w') → K G w') : OW P n ops Q G w ⟨none, .mapUpdate t x y z, ty, pos, af, g⟩ K := by
  have hd := (hT t ti ht).d
  rw [htd] at hd
  obtain ⟨dk, hk, hf⟩ := htk
  obtain ⟨w', hrun, h1, h2, h3⟩ := update_run hd hk hf hm k v
  exact o_unit (w' := w') hg rfl (fun a ha => by simp [execOp, ha.ev hx, ha.ev hy, ha.ev hz, hrun]) (h w' h1 h2 h3)
theorem o_look {t tk te : TypeId} {x y : Operand} {ck : Bool} {z : ν} {ti tie : TI} (hT : TabOk P T) (hm : MapL va w b l) {k : κ} (hx : Env.ev G x = some (.map (some b))) (hy : Env.ev G y = some (Key.val k))
    (ht : T.get t = some ti) (htd : ti.d = .mp tk te) (htk : ∃ dk, P.underlying tk = some dk ∧ Key.fit κ dk) (hte : T.get te = some tie) (hz : tie.zero = va z)
    (hg : gd ops G ⟨some d, .lookup t x y ck, ty, pos, af, g⟩ = some true) (hdn : Nat.blt d n = true)
    (h : K ((d, if ck then .tuple #[va ((getK l k).getD z), .bool (getK l k).isSome] else va ((getK l k).getD z)) :: G) w) : OW P n ops Q G w ⟨some d, .lookup t x y ck, ty, pos, af, g⟩ K := by
  have hd := (hT t ti ht).d
  rw [htd] at hd
  obtain ⟨dk, hk, hf⟩ := htk
  refine o_val hg rfl hdn (fun a ha => ?_) h
  have hzr := run_zeroValue' hT hte (P := P)
  rw [hz] at hzr
  simp [execOp, ha.ev hx, ha.ev hy, lookup_run hd hk hf (hzr w) hm k]
end
open Go Go.RowKit
theorem gN {G : Env} {j : Nat} {k : IntKind} {x y : Int} (h : Env.get G j = some (.int k x)) (e : x = y) : Env.get G j = some (.int k y) := by rw [h, e]
/-- A variable of the call's own (its block from B on, and in M). -/
structure MB (B : Nat) (M : Nat → Prop) (w : World) (b T : Nat) (cs : List Value) : Prop where
  box : Box w b T cs
  inM : M b
  ge : B ≤ b
/-- A map that the call writes. -/
structure OM {κ ν : Type} [Key κ] (va : ν → Value) (B : Nat) (M : Nat → Prop) (w : World) (b : Nat) (l : List (κ × ν)) : Prop where
  map : MapL va w b l
  inM : M b
  ge : B ≤ b
section
variable {B : Nat} {M M' : Nat → Prop} {w w' : World} {b T : Nat} {cs : List Value}
theorem MB.lt (h : MB B M w b T cs) : b < w.heap.size := h.box.lt
theorem MB.cell (h : MB B M w b T cs) (j : Nat) (v : Value) (hv : cs[j]? = some v) : w.cell? ⟨b, 0 + j, none⟩ = some v := h.box.cell j v hv
theorem MB.sp (h : MB B M w b T cs) (s : Stp B M M' w w') (hb : w'.heap[b]? = w.heap[b]?) : MB B M' w' b T cs := ⟨⟨hb.trans h.box.heap⟩, s.sub b h.inM, h.ge⟩
theorem MB.Y (h : MB B M w b T cs) (_hl : Low M w) (_hB : B ≤ w.heap.size) (e : Ext w w') : MB B M w' b T cs := ⟨h.box.Y e, h.inM, h.ge⟩
theorem MB.mk' (h : Box w b T cs) {w0 : World} (q : b = w0.heap.size) (hB : B ≤ w0.heap.size) : MB B (Add M b) w b T cs := ⟨h, .inr rfl, by omega⟩
variable {κ ν : Type} [Key κ] {va : ν → Value} {l : List (κ × ν)}
theorem OM.lt (h : OM va B M w b l) : b < w.heap.size := h.map.lt
theorem OM.sp (h : OM va B M w b l) (s : Stp B M M' w w') (hb : w'.heap[b]? = w.heap[b]?) : OM va B M' w' b l := ⟨h.map.keep hb, s.sub b h.inM, h.ge⟩
theorem OM.Y (h : OM va B M w b l) (_hl : Low M w) (_hB : B ≤ w.heap.size) (e : Ext w w') : OM va B M w' b l := ⟨h.map.Y e, h.inM, h.ge⟩
theorem OM.mk' (h : MapL va w b l) {w0 : World} (q : b = w0.heap.size) (hB : B ≤ w0.heap.size) : OM va B (Add M b) w b l := ⟨h, .inr rfl, by omega⟩
end
/-- From world to world: one block may be written; what is new is new. -/
structure UpdB (b : Nat) (w w' : World) : Prop where
  upd : Upd (fun z => z = b) w w'
  below : ∀ B, B ≤ b → Below B w w'
section
variable {b : Nat} {w w' w'' : World}
theorem UpdB.Y (h : Ext w w') (hb : b < w.heap.size) : UpdB b w w' := ⟨⟨h.size, fun x hx _ => h.block x hx⟩, fun B hB => Below.mono h (by omega)⟩
theorem UpdB.refl (b : Nat) (w : World) : UpdB b w w := ⟨⟨lR _, fun _ _ _ => rfl⟩, fun _ _ => Below.refl _ _⟩
theorem UpdB.trans (h : UpdB b w w') (k : UpdB b w' w'') : UpdB b w w'' :=
  ⟨⟨Nat.le_trans h.upd.1 k.upd.1, fun x hx hn => (k.upd.2 x (lT hx h.upd.1) hn).trans (h.upd.2 x hx hn)⟩, fun B hB => (h.below B hB).trans (k.below B hB)⟩
theorem UpdB.sp {B : Nat} {M : Nat → Prop} (h : UpdB b w w') (hM : M b) (hl : Low M w) (hB : B ≤ b) : Stp B M M w w' := Upd.sp h.upd hM hl h.below hB
end
section
variable {P : Program} {T : Tab} {n : Nat} {G : Env} {w : World}
theorem x_ret1s {fn : Func} {R : Value → World → Prop} {a t b o : Nat} {cs : List Value} {ti : TI} (hT : TabOk P T) (hc : ∀ j v, cs[j]? = some v → w.cell? ⟨b, o + j, none⟩ = some v) (hr : fn.results = #[.cell a t]) (hx : Env.get G a = some (.pointer (some ⟨b, o, none⟩)))
    (ht : T.get t = some ti) (hta : ti.d.agg = true) (hl : cs.length = ti.size) (h : R (.agg cs.toArray) w) : WX n (bodyPost P fn (Ret R)) G w .ret := by
  intro ac ha
  have hlc : (loadCells ⟨b, o, none⟩ ti.size).run P w = .ok cs.toArray w := by
    rw [← hl]
    exact run_loadCells_list (P := P) w ⟨b, o, none⟩ cs (fun j v hv => by rw [addr_add]; exact hc j v hv)
  exact ⟨ha.defers, .agg cs.toArray, by simp [results, hr, Array.getD_eq_getD_getElem?, ha.val a _ hx, asAddr, loadVar, run_isAgg hT ht, hta, run_sizeOf hT ht, hlc], h⟩
theorem x_ret2ts {fn : Func} {R : Value → World → Prop} {u a t b o : Nat} {x : Value} {cs : List Value} {ti : TI} (hT : TabOk P T) (hc : ∀ j v, cs[j]? = some v → w.cell? ⟨b, o + j, none⟩ = some v) (hr : fn.results = #[.tmp u, .cell a t]) (hu : Env.get G u = some x)
    (hx : Env.get G a = some (.pointer (some ⟨b, o, none⟩)))
    (ht : T.get t = some ti) (hta : ti.d.agg = true) (hl : cs.length = ti.size) (h : R (.tuple #[x, .agg cs.toArray]) w) : WX n (bodyPost P fn (Ret R)) G w .ret := by
  intro ac ha
  have hlc : (loadCells ⟨b, o, none⟩ ti.size).run P w = .ok cs.toArray w := by
    rw [← hl]
    exact run_loadCells_list (P := P) w ⟨b, o, none⟩ cs (fun j v hv => by rw [addr_add]; exact hc j v hv)
  exact ⟨ha.defers, _, by simp [results, hr, Array.getD_eq_getD_getElem?, ha.val u _ hu, ha.val a _ hx, asAddr, loadVar, run_isAgg hT ht, hta, run_sizeOf hT ht, hlc], h⟩
end
section
variable {P : Program} {n : Nat} {G : Env} {w : World} {Q : Exit → Act → World → Prop} {c : Code}
theorem Models.dup {a : Act} (ha : Models n a G) {t : Nat} {v : Value} (hv : Env.get G t = some v) : Models n a ((t, v) :: G) :=
  ⟨ha.size, ha.defers, fun k u hu => by
    rw [Env.get_cons] at hu
    by_cases hk : t = k
    · subst hk; simp at hu; subst hu; exact ha.val t _ hv
    · rw [if_neg hk] at hu; exact ha.val k u hu⟩
theorem c_split (t : Nat) (b : Bool) (hc : Env.get G t = some (.bool b)) (ht : b = true → WC P n Q ((t, .bool true) :: G) w c) (hf : b = false → WC P n Q ((t, .bool false) :: G) w c) : WC P n Q G w c := by
  intro a ha
  cases b with
  | true => exact ht rfl a (ha.dup hc)
  | false => exact hf rfl a (ha.dup hc)
theorem c_splitP (t : Nat) (p : Prop) [Decidable p] (hc : Env.get G t = some (.bool (decide p))) (ht : p → WC P n Q ((t, .bool true) :: G) w c) (hf : ¬ p → WC P n Q ((t, .bool false) :: G) w c) : WC P n Q G w c :=
  c_split t _ hc (fun h => ht (of_decide_eq_true h)) (fun h => hf (of_decide_eq_false h))
end
open Go Go.RowKit
/-- A tree: an op, a name, a number, kids. -/
inductive Ty where
  | mk (op : Int) (name : ByteArray) (n : Int) (kids : List Ty)
namespace Ty
def op : Ty → Int | mk o _ _ _ => o
def name : Ty → ByteArray | mk _ s _ _ => s
def n : Ty → Int | mk _ _ n _ => n
def kids : Ty → List Ty | mk _ _ _ l => l
end Ty
theorem Ty.ext' : ∀ {a b : Ty}, a.op = b.op → a.name = b.name → a.n = b.n → a.kids = b.kids → a = b
  | .mk _ _ _ _, .mk _ _ _ _, h1, h2, h3, h4 => by
    simp only [Ty.op, Ty.name, Ty.n, Ty.kids] at h1 h2 h3 h4
    subst h1; subst h2; subst h3; subst h4; rfl
theorem Ty.ind {p : Ty → Prop} (h : ∀ t, (∀ k ∈ t.kids, p k) → p t) (t : Ty) : p t := by
  generalize e : sizeOf t = n
  induction n using Nat.strongRecOn generalizing t with
  | ind n ih =>
    refine h t fun k hk => ih (sizeOf k) ?_ k rfl
    cases t with
    | mk o s m l =>
      have h1 : sizeOf k < sizeOf l := List.sizeOf_lt_of_mem hk
      rw [← e, Ty.mk.sizeOf_spec]
      omega
/-- The value reads as the tree. -/
inductive TyR (M : Nat → Prop) (w : World) : Ty → Value → Prop
  | mk {op n : Int} {name : ByteArray} {kids : List Ty} {a : Option Addr} {cap : Nat} (b off : Nat) (u : Nat → Value) (hop : 0 ≤ op ∧ op ≤ 255) (hs : name.size < 140737488355328) (hn : I64 n) (hl : kids.length < 140737488355328) (hc : kids.length ≤ cap)
      (ha : kids = [] ∨ a = some ⟨b, off, none⟩) (hu : ∀ (i : Nat) (x : Ty), kids[i]? = some x → TyR M w x (u i)) (hA : ∀ (i : Nat) (x : Ty), kids[i]? = some x → At M w b (off + i * 4) (u i).cells.toList) :
      TyR M w (.mk op name n kids) (.agg #[.int .u8 op, .string name, .int .i64 n, .slice a kids.length cap])
theorem TyR.map {M M' : Nat → Prop} {w w' : World} (hat : ∀ {b off : Nat} {cs : List Value}, At M w b off cs → At M' w' b off cs) : ∀ (t : Ty) (v : Value), TyR M w t v → TyR M' w' t v := by
  intro t v h
  induction h with
  | mk b off u hop hs hn hl hc ha hu hA ih => exact .mk b off u hop hs hn hl hc ha ih (fun i x hx => hat (hA i x hx))
instance : Rep Ty where
  sz := 4
  R := fun M w v t => TyR M w t v
  pos := by decide
  size := by
    intro M w v x h
    cases h; rfl
  one := by
    intro M w v x h u hu
    cases h
    simp [Value.cells] at hu
    rcases hu with rfl | rfl | rfl | rfl <;> rfl
  upd := fun h e => TyR.map (fun hA => hA.upd e) _ _ h
  wk := fun h e => TyR.map (fun hA => hA.wk e) _ _ h
theorem tO {M : Nat → Prop} {w : World} {v : Value} {t : Ty} (h : Rep.R M w v t) :
    ∃ kv, v = .agg #[.int .u8 t.op, .string t.name, .int .i64 t.n, kv] ∧ (0 ≤ t.op ∧ t.op ≤ 255) ∧ t.name.size < 140737488355328 ∧ I64 t.n ∧ Sl M w kv t.kids := by
  have h' : TyR M w t v := h
  cases h' with
  | mk b off u hop hs hn hl hc ha hu hA =>
    refine ⟨_, rfl, hop, hs, hn, _, _, rfl, hl, hc, ?_⟩
    rcases ha with ha | ha
    · exact .inl ha
    · exact .inr ⟨b, off, ha, fun i x hx => ⟨u i, hu i x hx, hA i x hx⟩⟩
theorem ty_mk {M : Nat → Prop} {w : World} {kv : Value} {op n : Int} {name : ByteArray} {kids : List Ty} (h1 : 0 ≤ op ∧ op ≤ 255) (h2 : name.size < 140737488355328) (h3 : I64 n) (hk : Sl M w kv kids) :
    Rep.R M w (.agg #[.int .u8 op, .string name, .int .i64 n, kv]) (Ty.mk op name n kids) := by
  show TyR M w _ _
  obtain ⟨a, cap, rfl, h4, h5, h6⟩ := hk
  rcases h6 with h6 | ⟨b, off, ha, h6⟩
  · subst h6
    exact .mk 0 0 (fun _ => .nilFunc) h1 h2 h3 h4 h5 (.inl rfl) (fun i x hx => by simp at hx) (fun i x hx => by simp at hx)
  · have h7 : ∀ i : Nat, ∃ u : Value, ∀ x : Ty, kids[i]? = some x → Rep.R M w u x ∧ At M w b (off + i * 4) u.cells.toList := by
      intro i
      cases hi : kids[i]? with
      | none => exact ⟨.nilFunc, fun x hx => by cases hx⟩
      | some y =>
        obtain ⟨u, hu, hA⟩ := h6 i y hi
        exact ⟨u, fun x hx => by cases hx; exact ⟨hu, hA⟩⟩
    obtain ⟨u, hu⟩ := Classical.axiomOfChoice h7
    exact .mk b off u h1 h2 h3 h4 h5 (.inr ha) (fun i x hx => (hu i x hx).1) (fun i x hx => (hu i x hx).2)
/-- A field: its name, its type. -/
structure Fld where
  name : ByteArray
  ty : Ty
instance : Rep Fld where
  sz := 5
  R := fun M w v f => f.name.size < 140737488355328 ∧ ∃ kv, v = .agg #[.string f.name, .int .u8 f.ty.op, .string f.ty.name, .int .i64 f.ty.n, kv] ∧ Rep.R M w (.agg #[.int .u8 f.ty.op, .string f.ty.name, .int .i64 f.ty.n, kv]) f.ty
  pos := by decide
  size := by rintro M w v x ⟨_, kv, rfl, _⟩; rfl
  one := by
    rintro M w v x ⟨_, kv, rfl, h⟩ u hu
    have := Rep.one h
    simp [Value.cells] at hu this
    rcases hu with rfl | rfl | rfl | rfl | rfl
    · rfl
    · rfl
    · rfl
    · rfl
    · exact this.2.2.2
  upd := fun ⟨h0, kv, h1, h2⟩ e => ⟨h0, kv, h1, Rep.upd h2 e⟩
  wk := fun ⟨h0, kv, h1, h2⟩ e => ⟨h0, kv, h1, Rep.wk h2 e⟩
theorem fld_open {M : Nat → Prop} {w : World} {v : Value} {f : Fld} (h : Rep.R M w v f) :
    f.name.size < 140737488355328 ∧ ∃ kv, v = .agg #[.string f.name, .int .u8 f.ty.op, .string f.ty.name, .int .i64 f.ty.n, kv] ∧ Rep.R M w (.agg #[.int .u8 f.ty.op, .string f.ty.name, .int .i64 f.ty.n, kv]) f.ty := h
theorem fld_mk {M : Nat → Prop} {w : World} {kv : Value} {name : ByteArray} {t : Ty} (h0 : name.size < 140737488355328) (h : Rep.R M w (.agg #[.int .u8 t.op, .string t.name, .int .i64 t.n, kv]) t) :
    Rep.R M w (.agg #[.string name, .int .u8 t.op, .string t.name, .int .i64 t.n, kv]) (⟨name, t⟩ : Fld) := ⟨h0, kv, rfl, h⟩
theorem cl_true {p : Prop} (h : p) : @decide p (Classical.propDecidable p) = true := @dT p (Classical.propDecidable p) h
theorem cl_false {p : Prop} (h : ¬ p) : @decide p (Classical.propDecidable p) = false := @dF p (Classical.propDecidable p) h
theorem cl_of {p : Prop} (h : @decide p (Classical.propDecidable p) = true) : p := @of_decide_eq_true p (Classical.propDecidable p) h
theorem cl_not {p : Prop} (h : @decide p (Classical.propDecidable p) = false) : ¬ p := @of_decide_eq_false p (Classical.propDecidable p) h
/-- A type's parts, itself first. -/
def partsL : Ty → List Ty
  | .mk o s n l => .mk o s n l :: l.flatMap partsL
theorem partsL_eq (t : Ty) : partsL t = t :: t.kids.flatMap partsL := by
  cases t; rw [partsL]; rfl
/-- How many parts. -/
def psz (t : Ty) : Nat := (partsL t).length
def pszs (l : List Ty) : Nat := (l.flatMap partsL).length
theorem psz_eq (t : Ty) : psz t = pszs t.kids + 1 := by
  unfold psz pszs; rw [partsL_eq]; simp
theorem pszs_cons (t : Ty) (l : List Ty) : pszs (t :: l) = psz t + pszs l := by simp [pszs, psz]
theorem pszs_nil : pszs [] = 0 := rfl
theorem pszs_append (l r : List Ty) : pszs (l ++ r) = pszs l + pszs r := by simp [pszs]
theorem psz_mem {t : Ty} : ∀ {l : List Ty}, t ∈ l → psz t ≤ pszs l
  | x :: l, h => by
    rw [pszs_cons]
    rcases List.mem_cons.1 h with rfl | h
    · omega
    · have := psz_mem h; omega
theorem psz_get {l : List Ty} {i : Nat} (h : i < l.length) : psz l[i] ≤ pszs l := psz_mem (gM h)
theorem psz_pos (t : Ty) : 0 < psz t := by rw [psz_eq]; omega
theorem len_psz : ∀ l : List Ty, l.length ≤ pszs l
  | [] => lR _
  | t :: l => by have := len_psz l; have := psz_pos t; rw [pszs_cons, List.length_cons]; omega
theorem take_step {l : List Ty} {i : Nat} (h : i < l.length) : (l.take (i + 1)).flatMap partsL = (l.take i).flatMap partsL ++ partsL l[i] := by
  rw [List.take_succ_eq_append_getElem h, List.flatMap_append]; simp only [List.flatMap_cons, List.flatMap_nil, List.append_nil]
theorem take_psz (l : List Ty) (i : Nat) : pszs (l.take i) ≤ pszs l := by
  have : pszs (l.take i ++ l.drop i) = pszs l := by rw [List.take_append_drop]
  rw [pszs_append] at this
  omega
theorem ty_eta (t : Ty) : t = .mk t.op t.name t.n t.kids := by cases t; rfl
end Rw
namespace Go.Proofs.Ytpoahmeacjggfaa
open Go Rw Go.RowKit
set_option maxRecDepth 4000
theorem parts_spec : ∀ (t : Ty) (M : Nat → Prop) (w : World) (v : Value), Rep.R M w v t → Low M w → psz t ≤ 2000000 → Calls Try.prog 21 #[v] w (Ret fun r w' => Sl M w' r (partsL t) ∧ Ext w w') := by
 refine Ty.ind fun t ih => ?_
 intro M w v ht hlow0 hsz
 have Lw := hlow0
 have hB := lR w.heap.size
 have hE := Below.refl w.heap.size w
 have hsub : ∀ b, M b → M b := fun _ h => h
 obtain ⟨kv, rfl, op, nm, n64, hk⟩ := tO ht
 have hps := psz_eq t
 have hkl := len_psz t.kids
 refine cN (n := 23) Try.func21 rfl rfl rfl ?_
 refine q0 ?_
 refine lC (o_box rfl rfl rfl ?_)
 intro b1 w1 hb_b1 ew1 h1
 replace h1 : Box _ b1 25 [.int .u8 t.op, .string t.name, .int .i64 t.n, kv] := h1
 replace h1 := h1.at (nO Lw hb_b1)
 replace hE := ew1.bl hE hB
 replace ht := Rep.Y ht ew1
 replace hk := hk.Y ew1
 replace Lw := Lw.Y ew1
 replace hB := ew1.z hB
 refine lP 1 tK rfl (q1 (q0 ?_))
 refine lC (oL tK (fun j v hv => h1.cell j v hv) rfl rfl rfl rfl rfl rfl ?_)
 refine lC (o_bs tK rfl rfl rfl rfl rfl rfl rfl (sz1 rfl) rfl rfl rfl ?_)
 intro bw2 w2 qbw2 ew2 hbw2
 have sw2 := Stp.add ew2 Lw hB (lQ qbw2.symm) hbw2.lt
 have le_bw2 := hB
 replace hE := hE.trans sw2.below
 replace ht := Rep.sp ht sw2
 replace hk := hk.sp sw2
 replace h1 := h1.sp sw2
 replace hsub := sw2.sb hsub
 replace Lw := sw2.low
 replace hB := sw2.z hB
 have ho := own_litS sw2 hbw2 (show Rs _ _ [_] [t] from ⟨ht, trivial⟩) qbw2 le_bw2 (by simp [maxLen])
 refine lP 1 tK rfl (q1 (cS (q0 (lP 1 tK rfl (q1 (cB ?_))))))
 refine c_loop3 (X := Nat) (Y := Value) (Z := Nat → Prop) (fun i v M1 => [(1, .pointer (some ⟨b1, 0, none⟩)), (3, v), (4, .int .i64 (i : Nat))]) (fun i v M1 w' => i ≤ t.kids.length ∧ OwnSl 25 w.heap.size M1 w' v (t :: (t.kids.take i).flatMap partsL) ∧ At M1 w' b1 0 [.int .u8 t.op, .string t.name, .int .i64 t.n, kv] ∧ Sl M1 w' kv t.kids ∧ Low M1 w' ∧ (∀ b, M b → M1 b) ∧ Below w.heap.size w w' ∧ w.heap.size ≤ w'.heap.size) (fun i v M1 => t.kids.length - i) (0) (.slice (some ⟨bw2, 0, none⟩) 1 1) ((Rw.Add M bw2)) (s3 rfl rfl rfl) ?_ ?_
 ·exact ⟨Nat.zero_le _, ho, h1, hk, Lw, hsub, hE, hB⟩
 rintro i v M1 w3 ⟨hi, ho, h1, hk, Lw, hsub, hE, hB⟩
 refine cS (q0 (lP 2 tK rfl ?_))
 refine lC (oD tK (h1.cell 3 _ rfl) rfl rfl rfl rfl rfl ?_)
 refine lC (o_len tK hk rfl rfl rfl rfl rfl ?_)
 refine lP 1 tK rfl (q1 ?_)
 refine cP _ rfl (fun c1 => ?_) (fun c1 => ?_)
 ·refine cK (xS (cS (cB (cG (lP 2 tK rfl ?_)))))
  refine lC (oD tK (h1.cell 3 _ rfl) rfl rfl rfl rfl rfl ?_)
  refine lP 1 tK rfl ?_
  have hik : i < t.kids.length := by omega
  have hp1 := psz_get hik
  have hp2 := take_psz t.kids i
  refine lC (o_ixS tK hk (gE hik) rfl rfl rfl rfl rfl rfl rfl rfl rfl ?_)
  intro ebx eox eux hyx hX
  obtain ⟨kvx, rfl, opx, nmx, n64x, hkx⟩ := tO hyx
  replace hX : At M1 w3 ebx eox [.int .u8 t.kids[i].op, .string t.kids[i].name, .int .i64 t.kids[i].n, kvx] := hX
  refine lC (oL tK (fun j v hv => hX.cell j v hv) rfl rfl rfl rfl rfl rfl ?_)
  refine lC (oK fo21 rfl rfl rfl (ih _ (gM hik) _ _ _ hyx Lw (by omega)) ?_)
  rintro vhr w4 ⟨hr, ew4⟩
  replace ho := ho.Y Lw hB ew4
  replace hE := ew4.bl hE hB
  replace h1 := h1.Y ew4
  replace hk := hk.Y ew4
  replace hyx := Rep.Y hyx ew4
  replace hkx := hkx.Y ew4
  replace hX := hX.Y ew4
  replace Lw := Lw.Y ew4
  replace hB := ew4.z hB
  have e1 : (t :: (t.kids.take i).flatMap partsL).length = pszs (t.kids.take i) + 1 := rfl
  have e2 : (partsL t.kids[i]).length = psz t.kids[i] := rfl
  have e3 := take_psz t.kids (i + 1)
  rw [show pszs (t.kids.take (i + 1)) = pszs (t.kids.take i) + psz t.kids[i] by unfold pszs; rw [take_step hik, List.length_append]; rfl] at e3
  refine lC (o_app tK ho hr Lw hB rfl rfl rfl rfl rfl rfl rfl (by omega) (by rw [e1, e2]; show _ * 56 ≤ _; omega) rfl rfl ?_)
  intro vw5 w5 Mw5 hw5 sw5 frw5 blw5
  replace hE := hE.trans sw5.below
  replace h1 := h1.sp sw5
  replace hk := hk.sp sw5
  replace hyx := Rep.sp hyx sw5
  replace hkx := hkx.sp sw5
  replace hX := hX.sp sw5
  replace hr := hr.sp sw5
  replace hsub := sw5.sb hsub
  replace Lw := sw5.low
  replace hB := sw5.z hB
  replace ho := hw5
  clear hw5
  refine lP 1 tK rfl (q2 (xS (cG (lP 1 tK rfl ?_))))
  refine lC (o_ai rfl rfl rfl (by omega) rfl rfl ?_)
  refine lP 1 tK rfl (lN ?_)
  exact x_round3 (i + 1) (vw5) (Mw5) (s3 rfl rfl rfl) ⟨by omega, by rw [take_step hik]; exact ho, h1, hk, Lw, hsub, hE, hB⟩ (by omega)
 refine c_exit (xE (xE (x_blkE (xS (q0 (lP 2 tK rfl (q1 (cR (x1_ rfl rfl ?_)))))))))
 obtain rfl : i = t.kids.length := by omega
 rw [List.take_of_length_le (lR _), ← partsL_eq] at ho
 exact ⟨ho.sl (by have : (partsL t).length = psz t := rfl; omega) hlow0 hsub, hE⟩
end Go.Proofs.Ytpoahmeacjggfaa
namespace Rw
def smallB (c : UInt8) : Bool := decide (97 ≤ c.toNat ∧ c.toNat ≤ 122)
def digitB (c : UInt8) : Bool := decide (48 ≤ c.toNat ∧ c.toNat ≤ 57)
/-- May the byte at a place stand in a word? -/
def wordAt (s : ByteArray) (i : Nat) : Bool := match s.data[i]? with
  | some c => smallB c || (decide (i ≠ 0) && (digitB c || decide (c.toNat = 95)))
  | none => true
def wordlyB (s : ByteArray) : Bool := decide (s.size ≠ 0) && (List.range s.size).all (wordAt s)
def ownW : List ByteArray := [⟨#[102, 117, 110]⟩, ⟨#[114, 101, 99]⟩, ⟨#[108, 101, 116]⟩, ⟨#[105, 110]⟩, ⟨#[105, 102]⟩, ⟨#[116, 104, 101, 110]⟩, ⟨#[101, 108, 115, 101]⟩, ⟨#[99, 97, 115, 101]⟩, ⟨#[111, 102]⟩, ⟨#[101, 110, 100]⟩, ⟨#[116, 114, 117, 101]⟩, ⟨#[102, 97, 108, 115, 101]⟩, ⟨#[100, 101, 102]⟩, ⟨#[73, 110, 116]⟩, ⟨#[66, 111, 111, 108]⟩]
def ownB (s : ByteArray) : Bool := ownW.any fun x => decide (s = x)
def isWordB (s : ByteArray) : Bool := decide (s.size ≤ 32) && wordlyB s && !ownB s
/-- The document's kinds of bytes. -/
def kindN (c : UInt8) : Int := if 97 ≤ c.toNat ∧ c.toNat ≤ 122 then 1 else if 65 ≤ c.toNat ∧ c.toNat ≤ 90 then 2 else if 48 ≤ c.toNat ∧ c.toNat ≤ 57 then 3 else if c.toNat = 95 then 4 else 0
theorem size_data (s : ByteArray) : s.data.size = s.size := rfl
theorem word_no {s : ByteArray} {i : Nat} (hi : i < s.size) (h : wordAt s i = false) : wordlyB s = false := by
  unfold wordlyB
  have : (List.range s.size).all (wordAt s) = false := by
    rw [List.all_eq_false]
    exact ⟨i, List.mem_range.2 hi, by simp [h]⟩
  simp [this]
theorem word_all {s : ByteArray} {i : Nat} (hi : s.size ≤ i) (h : ∀ j, j < i → wordAt s j = true) : wordlyB s = decide (s.size ≠ 0) := by
  unfold wordlyB
  have : (List.range s.size).all (wordAt s) = true := by
    rw [List.all_eq_true]
    intro j hj
    exact h j (by have := List.mem_range.1 hj; omega)
  simp [this]
theorem word_step {s : ByteArray} {i : Nat} (h : ∀ j, j < i → wordAt s j = true) (hi : wordAt s i = true) : ∀ j, j < i + 1 → wordAt s j = true := by
  intro j hj
  by_cases e : j = i
  · subst e; exact hi
  · exact h j (by omega)
theorem size_zero {s : ByteArray} : s.size = 0 ↔ s = ⟨#[]⟩ := by
  cases s with | mk a =>
  constructor
  · intro h
    have : a.size = 0 := h
    rw [Array.eq_empty_of_size_eq_zero this]
  · intro h; rw [h]; rfl
theorem word_kind {s : ByteArray} {i : Nat} {c : UInt8} (h : s.data[i]? = some c) : wordAt s i = (decide (kindN c ≠ 0) && decide (kindN c ≠ 2) && (decide (i ≠ 0) || decide (kindN c = 1))) := by
  unfold wordAt
  rw [h]
  rw [Bool.eq_iff_iff]
  simp only [smallB, digitB, Bool.or_eq_true, Bool.and_eq_true, decide_eq_true_eq]
  unfold kindN
  (repeat' split) <;> omega
theorem any_no {α : Type} {l : List α} {p : α → Bool} {k : Nat} (hk : l.length ≤ k) (hno : ∀ (j : Nat) x, j < k → l[j]? = some x → p x = false) : l.any p = false := by
  rw [List.any_eq_false]
  intro x hx
  obtain ⟨j, hj, rfl⟩ := List.getElem_of_mem hx
  rw [hno j l[j] (by omega) (gE hj)]
  simp
theorem idx_step {α : Type} {l : List α} {p : α → Bool} {k : Nat} (hno : ∀ (j : Nat) x, j < k → l[j]? = some x → p x = false) (hk : k < l.length) (h : p l[k] = false) : ∀ (j : Nat) x, j < k + 1 → l[j]? = some x → p x = false := by
  intro j x hj hx
  by_cases e : j = k
  · subst e; rw [gE hk] at hx; cases hx; exact h
  · exact hno j x (by omega) hx
end Rw
namespace Go.Proofs.Ytpoahmeacjggfaa
open Go Rw Go.RowKit
set_option maxRecDepth 4000
theorem small_spec (w : World) (c : UInt8) :
  Calls Try.prog 131 #[.int .u8 (c.toNat : Int)] w (Ret fun r w' => r = .bool (smallB c) ∧ w = w') := by
 refine cN (n := 9) Try.func131 rfl rfl rfl ?_
 refine q0 (lP 1 tK rfl (q1 (q0 (lP 3 tK rfl ?_))))
 refine lS 5 _ rfl (fun c1 => ?_) (fun c1 => ?_)
 ·refine lP 4 tK rfl (q1 (cR (x1_ rfl rfl ?_)))
  exact ⟨by congr 1; rw [Bool.eq_iff_iff]; simp [smallB] <;> omega, rfl⟩
 refine lP 4 tK rfl (q1 (cR (x1_ rfl rfl ?_)))
 exact ⟨by congr 1; rw [Bool.eq_iff_iff]; simp [smallB] <;> omega, rfl⟩
theorem digit_spec (w : World) (c : UInt8) :
  Calls Try.prog 132 #[.int .u8 (c.toNat : Int)] w (Ret fun r w' => r = .bool (digitB c) ∧ w = w') := by
 refine cN (n := 9) Try.func132 rfl rfl rfl ?_
 refine q0 (lP 1 tK rfl (q1 (q0 (lP 3 tK rfl ?_))))
 refine lS 5 _ rfl (fun c1 => ?_) (fun c1 => ?_)
 ·refine lP 4 tK rfl (q1 (cR (x1_ rfl rfl ?_)))
  exact ⟨by congr 1; rw [Bool.eq_iff_iff]; simp [digitB] <;> omega, rfl⟩
 refine lP 4 tK rfl (q1 (cR (x1_ rfl rfl ?_)))
 exact ⟨by congr 1; rw [Bool.eq_iff_iff]; simp [digitB] <;> omega, rfl⟩
theorem kind_spec (w : World) (c : UInt8) :
  Calls Try.prog 133 #[.int .u8 (c.toNat : Int)] w (Ret fun r w' => r = .int .i64 (kindN c) ∧ w = w') := by
 refine cN (n := 27) Try.func133 rfl rfl rfl ?_
 refine q0 (lP 1 tK rfl (q1 (cS (cB (q0 (lP 3 tK rfl ?_))))))
 refine lS 6 _ rfl (fun c1 => ?_) (fun c1 => ?_)
 ·refine lP 4 tK rfl (q1 ?_)
  refine cP _ rfl (fun c2 => ?_) (fun c2 => ?_)
  ·refine q0 (lP 1 tK rfl (q1 (cR (xB (xR (x1_ rfl rfl ?_))))))
   exact ⟨by congr 1; unfold kindN; (repeat' split) <;> omega, rfl⟩
  refine q0 (lP 3 tK rfl ?_)
  refine lS 13 _ rfl (fun c3 => ?_) (fun c3 => ?_)
  ·refine lP 4 tK rfl (q1 ?_)
   refine cP _ rfl (fun c4 => ?_) (fun c4 => ?_)
   ·refine q0 (lP 1 tK rfl (q1 (cR (xB (xR (x1_ rfl rfl ?_))))))
    exact ⟨by congr 1; unfold kindN; (repeat' split) <;> omega, rfl⟩
   refine q0 (lP 3 tK rfl ?_)
   refine lS 20 _ rfl (fun c5 => ?_) (fun c5 => ?_)
   ·refine lP 4 tK rfl (q1 ?_)
    refine cP _ rfl (fun c6 => ?_) (fun c6 => ?_)
    ·refine q0 (lP 1 tK rfl (q1 (cR (xB (xR (x1_ rfl rfl ?_))))))
     exact ⟨by congr 1; unfold kindN; (repeat' split) <;> omega, rfl⟩
    refine q0 (lP 3 tK rfl (q1 ?_))
    refine cP _ rfl (fun c7 => ?_) (fun c7 => ?_)
    ·refine q0 (lP 1 tK rfl (q1 (cR (xB (xR (x1_ rfl rfl ?_))))))
     exact ⟨by congr 1; unfold kindN; (repeat' split) <;> omega, rfl⟩
    refine cK (x_blk (xS (q0 (lP 1 tK rfl (q1 (cR (x1_ rfl rfl ?_)))))))
    exact ⟨by congr 1; unfold kindN; (repeat' split) <;> omega, rfl⟩
   refine lP 4 tK rfl (q1 (c_ifF rfl (q0 (lP 3 tK rfl (q1 ?_)))))
   refine cP _ rfl (fun c8 => ?_) (fun c8 => ?_)
   ·refine q0 (lP 1 tK rfl (q1 (cR (xB (xR (x1_ rfl rfl ?_))))))
    exact ⟨by congr 1; unfold kindN; (repeat' split) <;> omega, rfl⟩
   refine cK (x_blk (xS (q0 (lP 1 tK rfl (q1 (cR (x1_ rfl rfl ?_)))))))
   exact ⟨by congr 1; unfold kindN; (repeat' split) <;> omega, rfl⟩
  refine lP 4 tK rfl (q1 (c_ifF rfl (q0 (lP 3 tK rfl ?_))))
  refine lS 20 _ rfl (fun c9 => ?_) (fun c9 => ?_)
  ·refine lP 4 tK rfl (q1 ?_)
   refine cP _ rfl (fun c10 => ?_) (fun c10 => ?_)
   ·refine q0 (lP 1 tK rfl (q1 (cR (xB (xR (x1_ rfl rfl ?_))))))
    exact ⟨by congr 1; unfold kindN; (repeat' split) <;> omega, rfl⟩
   refine q0 (lP 3 tK rfl (q1 ?_))
   refine cP _ rfl (fun c11 => ?_) (fun c11 => ?_)
   ·refine q0 (lP 1 tK rfl (q1 (cR (xB (xR (x1_ rfl rfl ?_))))))
    exact ⟨by congr 1; unfold kindN; (repeat' split) <;> omega, rfl⟩
   refine cK (x_blk (xS (q0 (lP 1 tK rfl (q1 (cR (x1_ rfl rfl ?_)))))))
   exact ⟨by congr 1; unfold kindN; (repeat' split) <;> omega, rfl⟩
  refine lP 4 tK rfl (q1 (c_ifF rfl (q0 (lP 3 tK rfl (q1 ?_)))))
  refine cP _ rfl (fun c12 => ?_) (fun c12 => ?_)
  ·refine q0 (lP 1 tK rfl (q1 (cR (xB (xR (x1_ rfl rfl ?_))))))
   exact ⟨by congr 1; unfold kindN; (repeat' split) <;> omega, rfl⟩
  refine cK (x_blk (xS (q0 (lP 1 tK rfl (q1 (cR (x1_ rfl rfl ?_)))))))
  exact ⟨by congr 1; unfold kindN; (repeat' split) <;> omega, rfl⟩
 refine lP 4 tK rfl (q1 (c_ifF rfl (q0 (lP 3 tK rfl ?_))))
 refine lS 13 _ rfl (fun c13 => ?_) (fun c13 => ?_)
 ·refine lP 4 tK rfl (q1 ?_)
  refine cP _ rfl (fun c14 => ?_) (fun c14 => ?_)
  ·refine q0 (lP 1 tK rfl (q1 (cR (xB (xR (x1_ rfl rfl ?_))))))
   exact ⟨by congr 1; unfold kindN; (repeat' split) <;> omega, rfl⟩
  refine q0 (lP 3 tK rfl ?_)
  refine lS 20 _ rfl (fun c15 => ?_) (fun c15 => ?_)
  ·refine lP 4 tK rfl (q1 ?_)
   refine cP _ rfl (fun c16 => ?_) (fun c16 => ?_)
   ·refine q0 (lP 1 tK rfl (q1 (cR (xB (xR (x1_ rfl rfl ?_))))))
    exact ⟨by congr 1; unfold kindN; (repeat' split) <;> omega, rfl⟩
   refine q0 (lP 3 tK rfl (q1 ?_))
   refine cP _ rfl (fun c17 => ?_) (fun c17 => ?_)
   ·refine q0 (lP 1 tK rfl (q1 (cR (xB (xR (x1_ rfl rfl ?_))))))
    exact ⟨by congr 1; unfold kindN; (repeat' split) <;> omega, rfl⟩
   refine cK (x_blk (xS (q0 (lP 1 tK rfl (q1 (cR (x1_ rfl rfl ?_)))))))
   exact ⟨by congr 1; unfold kindN; (repeat' split) <;> omega, rfl⟩
  refine lP 4 tK rfl (q1 (c_ifF rfl (q0 (lP 3 tK rfl (q1 ?_)))))
  refine cP _ rfl (fun c18 => ?_) (fun c18 => ?_)
  ·refine q0 (lP 1 tK rfl (q1 (cR (xB (xR (x1_ rfl rfl ?_))))))
   exact ⟨by congr 1; unfold kindN; (repeat' split) <;> omega, rfl⟩
  refine cK (x_blk (xS (q0 (lP 1 tK rfl (q1 (cR (x1_ rfl rfl ?_)))))))
  exact ⟨by congr 1; unfold kindN; (repeat' split) <;> omega, rfl⟩
 refine lP 4 tK rfl (q1 (c_ifF rfl (q0 (lP 3 tK rfl ?_))))
 refine lS 20 _ rfl (fun c19 => ?_) (fun c19 => ?_)
 ·refine lP 4 tK rfl (q1 ?_)
  refine cP _ rfl (fun c20 => ?_) (fun c20 => ?_)
  ·refine q0 (lP 1 tK rfl (q1 (cR (xB (xR (x1_ rfl rfl ?_))))))
   exact ⟨by congr 1; unfold kindN; (repeat' split) <;> omega, rfl⟩
  refine q0 (lP 3 tK rfl (q1 ?_))
  refine cP _ rfl (fun c21 => ?_) (fun c21 => ?_)
  ·refine q0 (lP 1 tK rfl (q1 (cR (xB (xR (x1_ rfl rfl ?_))))))
   exact ⟨by congr 1; unfold kindN; (repeat' split) <;> omega, rfl⟩
  refine cK (x_blk (xS (q0 (lP 1 tK rfl (q1 (cR (x1_ rfl rfl ?_)))))))
  exact ⟨by congr 1; unfold kindN; (repeat' split) <;> omega, rfl⟩
 refine lP 4 tK rfl (q1 (c_ifF rfl (q0 (lP 3 tK rfl (q1 ?_)))))
 refine cP _ rfl (fun c22 => ?_) (fun c22 => ?_)
 ·refine q0 (lP 1 tK rfl (q1 (cR (xB (xR (x1_ rfl rfl ?_))))))
  exact ⟨by congr 1; unfold kindN; (repeat' split) <;> omega, rfl⟩
 refine cK (x_blk (xS (q0 (lP 1 tK rfl (q1 (cR (x1_ rfl rfl ?_)))))))
 exact ⟨by congr 1; unfold kindN; (repeat' split) <;> omega, rfl⟩
theorem own_spec (w : World) (s : ByteArray) :
  Calls Try.prog 119 #[.string s] w (Ret fun r w' => r = .bool (ownB s) ∧ w = w') := by
 refine cN (n := 20) Try.func119 rfl rfl rfl ?_
 refine q0 (lP 1 tK rfl (q1 (cS (q0 (lP 1 tK rfl (q1 (cB (cS (q0 (lP 2 tK rfl (q1 ?_)))))))))))
 refine c_splitP 4 _ rfl (fun c1 => cI rfl ?_) (fun c1 => c_ifF rfl ?_)
 ·refine cK (xS (cI rfl (q0 (lP 1 tK rfl (q1 (cR (xB (xR (x1_ rfl rfl ?_)))))))))
  exact ⟨by simp [ownB, ownW, *], rfl⟩
 refine q0 (lP 2 tK rfl (q1 ?_))
 refine c_splitP 4 _ rfl (fun c2 => cI rfl ?_) (fun c2 => c_ifF rfl ?_)
 ·refine cK (xS (cI rfl (q0 (lP 1 tK rfl (q1 (cR (xB (xR (x1_ rfl rfl ?_)))))))))
  exact ⟨by simp [ownB, ownW, *], rfl⟩
 refine q0 (lP 2 tK rfl (q1 ?_))
 refine c_splitP 4 _ rfl (fun c3 => cI rfl ?_) (fun c3 => c_ifF rfl ?_)
 ·refine cK (xS (cI rfl (q0 (lP 1 tK rfl (q1 (cR (xB (xR (x1_ rfl rfl ?_)))))))))
  exact ⟨by simp [ownB, ownW, *], rfl⟩
 refine q0 (lP 2 tK rfl (q1 ?_))
 refine c_splitP 4 _ rfl (fun c4 => cI rfl ?_) (fun c4 => c_ifF rfl ?_)
 ·refine cK (xS (cI rfl (q0 (lP 1 tK rfl (q1 (cR (xB (xR (x1_ rfl rfl ?_)))))))))
  exact ⟨by simp [ownB, ownW, *], rfl⟩
 refine q0 (lP 2 tK rfl (q1 ?_))
 refine c_splitP 4 _ rfl (fun c5 => cI rfl ?_) (fun c5 => c_ifF rfl ?_)
 ·refine cK (xS (cI rfl (q0 (lP 1 tK rfl (q1 (cR (xB (xR (x1_ rfl rfl ?_)))))))))
  exact ⟨by simp [ownB, ownW, *], rfl⟩
 refine q0 (lP 2 tK rfl (q1 ?_))
 refine c_splitP 4 _ rfl (fun c6 => cI rfl ?_) (fun c6 => c_ifF rfl ?_)
 ·refine cK (xS (cI rfl (q0 (lP 1 tK rfl (q1 (cR (xB (xR (x1_ rfl rfl ?_)))))))))
  exact ⟨by simp [ownB, ownW, *], rfl⟩
 refine q0 (lP 2 tK rfl (q1 ?_))
 refine c_splitP 4 _ rfl (fun c7 => cI rfl ?_) (fun c7 => c_ifF rfl ?_)
 ·refine cK (xS (cI rfl (q0 (lP 1 tK rfl (q1 (cR (xB (xR (x1_ rfl rfl ?_)))))))))
  exact ⟨by simp [ownB, ownW, *], rfl⟩
 refine q0 (lP 2 tK rfl (q1 ?_))
 refine c_splitP 4 _ rfl (fun c8 => cI rfl ?_) (fun c8 => c_ifF rfl ?_)
 ·refine cK (xS (cI rfl (q0 (lP 1 tK rfl (q1 (cR (xB (xR (x1_ rfl rfl ?_)))))))))
  exact ⟨by simp [ownB, ownW, *], rfl⟩
 refine q0 (lP 2 tK rfl (q1 ?_))
 refine c_splitP 4 _ rfl (fun c9 => cI rfl ?_) (fun c9 => c_ifF rfl ?_)
 ·refine cK (xS (cI rfl (q0 (lP 1 tK rfl (q1 (cR (xB (xR (x1_ rfl rfl ?_)))))))))
  exact ⟨by simp [ownB, ownW, *], rfl⟩
 refine q0 (lP 2 tK rfl (q1 ?_))
 refine c_splitP 4 _ rfl (fun c10 => cI rfl ?_) (fun c10 => c_ifF rfl ?_)
 ·refine cK (xS (cI rfl (q0 (lP 1 tK rfl (q1 (cR (xB (xR (x1_ rfl rfl ?_)))))))))
  exact ⟨by simp [ownB, ownW, *], rfl⟩
 refine q0 (lP 2 tK rfl (q1 ?_))
 refine c_splitP 4 _ rfl (fun c11 => cI rfl ?_) (fun c11 => c_ifF rfl ?_)
 ·refine cK (xS (cI rfl (q0 (lP 1 tK rfl (q1 (cR (xB (xR (x1_ rfl rfl ?_)))))))))
  exact ⟨by simp [ownB, ownW, *], rfl⟩
 refine q0 (lP 2 tK rfl (q1 ?_))
 refine c_splitP 4 _ rfl (fun c12 => cI rfl ?_) (fun c12 => c_ifF rfl ?_)
 ·refine cK (xS (cI rfl (q0 (lP 1 tK rfl (q1 (cR (xB (xR (x1_ rfl rfl ?_)))))))))
  exact ⟨by simp [ownB, ownW, *], rfl⟩
 refine q0 (lP 2 tK rfl (q1 ?_))
 refine c_splitP 4 _ rfl (fun c13 => cI rfl ?_) (fun c13 => c_ifF rfl ?_)
 ·refine cK (xS (cI rfl (q0 (lP 1 tK rfl (q1 (cR (xB (xR (x1_ rfl rfl ?_)))))))))
  exact ⟨by simp [ownB, ownW, *], rfl⟩
 refine q0 (lP 2 tK rfl (q1 ?_))
 refine c_splitP 4 _ rfl (fun c14 => cI rfl ?_) (fun c14 => c_ifF rfl ?_)
 ·refine cK (xS (cI rfl (q0 (lP 1 tK rfl (q1 (cR (xB (xR (x1_ rfl rfl ?_)))))))))
  exact ⟨by simp [ownB, ownW, *], rfl⟩
 refine cG (lP 2 tK rfl (q1 ?_))
 refine c_splitP 4 _ rfl (fun c15 => cI rfl ?_) (fun c15 => c_ifF rfl ?_)
 ·refine q0 (lP 1 tK rfl (q1 (cR (xB (xR (x1_ rfl rfl ?_))))))
  exact ⟨by simp [ownB, ownW, *], rfl⟩
 refine cK (x_blk (xS (q0 (lP 1 tK rfl (q1 (cR (x1_ rfl rfl ?_)))))))
 exact ⟨by simp [ownB, ownW, *], rfl⟩
theorem wordly_spec (w : World) (s : ByteArray) (hs : s.size < 140737488355328) :
  Calls Try.prog 118 #[.string s] w (Ret fun r w' => r = .bool (wordlyB s) ∧ w = w') := by
 refine cN (n := 32) Try.func118 rfl rfl rfl ?_
 refine q0 (lP 1 tK rfl (q1 (cS (q0 (lP 3 tK rfl (q1 (cB ?_)))))))
 refine c_loop (X := Nat) (fun i => [(0, .string s), (6, .int .i64 (s.size : Int)), (7, .int .i64 (i : Nat))]) (fun i w' => w = w' ∧ i ≤ s.size ∧ ∀ j, j < i → wordAt s j = true) (fun i => s.size - i) (0) (s3 rfl rfl rfl) ?_ ?_
 ·exact ⟨rfl, Nat.zero_le _, fun j hj => absurd hj (Nat.not_lt_zero _)⟩
 rintro i _ ⟨rfl, hi, hall⟩
 refine q0 (lP 1 tK rfl (q1 (cS ?_)))
 refine cP _ rfl (fun c1 => ?_) (fun c1 => ?_)
 ·refine cK (xS (cS (cB (q0 (lP 2 tK rfl (q1 (q0 (lP 2 tK rfl ?_))))))))
  have his : i < s.size := by omega
  have hd : s.data[i]? = some s.data[i] := Array.getElem?_eq_getElem his
  generalize hcc : s.data[i] = ch at hd
  refine lC (o_si tK rfl rfl rfl rfl rfl hd rfl rfl ?_)
  refine lP 1 tK rfl (q1 (q0 (lP 1 tK rfl ?_)))
  refine lC (oK fo131 rfl rfl rfl (small_spec _ ch) ?_)
  rintro _ _ ⟨rfl, rfl⟩
  refine lP 2 tK rfl ?_
  refine l_splitB 16 _ rfl (fun c2 => ?_) (fun c2 => ?_)
  ·refine lP 3 tK rfl ?_
   refine lS 19 _ rfl (fun c3 => ?_) (fun c3 => ?_)
   ·refine lP 9 tK rfl (q1 (cI rfl (q0 (lP 1 tK rfl (q1 (cR (xB (xR (xR (xB (xR (x1_ rfl rfl ?_))))))))))))
    first
    | exact ⟨by rw [word_all (by omega) hall]; congr 1; rw [Bool.eq_iff_iff]; simp only [size_zero, ne_eq, Bool.not_eq_true', decide_eq_false_iff_not, decide_eq_true_eq], rfl⟩
    | exact ⟨by rw [word_no (i := i) (by omega) (by simp_all [wordAt] <;> omega)], rfl⟩
   refine lP 1 tK rfl ?_
   refine lC (oK fo132 rfl rfl rfl (digit_spec _ ch) ?_)
   rintro _ _ ⟨rfl, rfl⟩
   refine lP 2 tK rfl ?_
   refine l_splitB 23 _ rfl (fun c4 => ?_) (fun c4 => ?_)
   ·refine lP 5 tK rfl (q1 ?_)
    refine c_ifN _ rfl (fun c5 => ?_) (fun c5 => ?_)
    ·refine q0 (lP 1 tK rfl (q1 (cR (xB (xR (xR (xB (xR (x1_ rfl rfl ?_)))))))))
     first
     | exact ⟨by rw [word_all (by omega) hall]; congr 1; rw [Bool.eq_iff_iff]; simp only [size_zero, ne_eq, Bool.not_eq_true', decide_eq_false_iff_not, decide_eq_true_eq], rfl⟩
     | exact ⟨by rw [word_no (i := i) (by omega) (by simp_all [wordAt] <;> omega)], rfl⟩
    refine cK (x_blk (xS (cG ?_)))
    refine lC (o_ai rfl rfl rfl (by omega) rfl rfl ?_)
    refine lP 1 tK rfl (lN ?_)
    exact x_round (i + 1) (s3 rfl rfl rfl) ⟨rfl, by omega, word_step hall (by simp_all [wordAt] <;> omega)⟩ (by omega)
   refine lP 5 tK rfl (q1 (c_ifF rfl (cK (x_blk (xS (cG ?_))))))
   refine lC (o_ai rfl rfl rfl (by omega) rfl rfl ?_)
   refine lP 1 tK rfl (lN ?_)
   exact x_round (i + 1) (s3 rfl rfl rfl) ⟨rfl, by omega, word_step hall (by simp_all [wordAt] <;> omega)⟩ (by omega)
  refine lP 12 tK rfl (q1 (c_ifF rfl (cK (x_blk (xS (cG ?_))))))
  refine lC (o_ai rfl rfl rfl (by omega) rfl rfl ?_)
  refine lP 1 tK rfl (lN ?_)
  exact x_round (i + 1) (s3 rfl rfl rfl) ⟨rfl, by omega, word_step hall (by simp_all [wordAt] <;> omega)⟩ (by omega)
 refine c_exit (xE (xE (x_blkE (xS (q0 (lP 3 tK rfl (q1 (cR (x1_ rfl rfl ?_)))))))))
 first
 | exact ⟨by rw [word_all (by omega) hall]; congr 1; rw [Bool.eq_iff_iff]; simp only [size_zero, ne_eq, Bool.not_eq_true', decide_eq_false_iff_not, decide_eq_true_eq], rfl⟩
 | exact ⟨by rw [word_no (i := i) (by omega) (by simp_all [wordAt] <;> omega)], rfl⟩
theorem isWord_spec (w : World) (s : ByteArray) (hs : s.size < 140737488355328) :
  Calls Try.prog 93 #[.string s] w (Ret fun r w' => r = .bool (isWordB s) ∧ w = w') := by
 refine cN (n := 15) Try.func93 rfl rfl rfl ?_
 refine q0 (lP 1 tK rfl (q1 (q0 (lP 4 tK rfl ?_))))
 refine lS 6 _ rfl (fun c1 => ?_) (fun c1 => ?_)
 ·refine lP 1 tK rfl ?_
  refine lC (oK fo118 rfl rfl rfl (wordly_spec _ s hs) ?_)
  rintro _ _ ⟨rfl, rfl⟩
  refine lP 2 tK rfl ?_
  refine l_split 10 _ rfl (fun c2 => ?_) (fun c2 => ?_)
  ·refine lP 1 tK rfl ?_
   refine lC (oK fo119 rfl rfl rfl (own_spec _ s) ?_)
   rintro _ _ ⟨rfl, rfl⟩
   refine lP 3 tK rfl (q1 (cR (x1_ rfl rfl ?_)))
   exact ⟨by unfold isWordB; by_cases h32 : s.size ≤ 32 <;> simp_all <;> omega, rfl⟩
  refine lP 5 tK rfl (q1 (cR (x1_ rfl rfl ?_)))
  exact ⟨by unfold isWordB; by_cases h32 : s.size ≤ 32 <;> simp_all <;> omega, rfl⟩
 refine lP 9 tK rfl (q1 (cR (x1_ rfl rfl ?_)))
 exact ⟨by unfold isWordB; by_cases h32 : s.size ≤ 32 <;> simp_all <;> omega, rfl⟩
theorem in2_spec (M : Nat → Prop) (w : World) (v : Value) (l : List ByteArray) (s : ByteArray) (hl : Sl M w v l) :
  Calls Try.prog 122 #[v, .string s] w (Ret fun r w' => r = .bool (l.any fun x => decide (s = x)) ∧ w = w') := by
 have hlt := hl.lt
 refine cN (n := 18) Try.func122 rfl rfl rfl ?_
 refine q0 (lP 1 tK rfl (q1 (cS (q0 (lP 1 tK rfl (q1 (cB ?_)))))))
 refine c_loop (X := Nat) (fun i => [(0, v), (1, .string s), (5, .int .i64 (i : Nat))]) (fun i w' => w = w' ∧ i ≤ l.length ∧ ∀ (j : Nat) x, j < i → l[j]? = some x → decide (s = x) = false) (fun i => l.length - i) (0) (s3 rfl rfl rfl) ?_ ?_
 ·exact ⟨rfl, Nat.zero_le _, fun j x hj => absurd hj (Nat.not_lt_zero _)⟩
 rintro i _ ⟨rfl, hi, hno⟩
 refine cS (q0 (lP 2 tK rfl ?_))
 refine lC (o_len tK hl rfl rfl rfl rfl rfl ?_)
 refine lP 1 tK rfl (q1 ?_)
 refine cP _ rfl (fun c1 => ?_) (fun c1 => ?_)
 ·refine cK (xS (cS (cB (q0 (lP 2 tK rfl ?_)))))
  have hil : i < l.length := by omega
  refine lC (o_ixS tK hl (gE hil) rfl rfl rfl rfl rfl rfl rfl rfl rfl ?_)
  intro b o u hr hat
  obtain ⟨rfl, _⟩ := hr
  refine lC (oD tK (hat.cell 0 _ rfl) rfl rfl rfl rfl rfl ?_)
  refine lP 2 tK rfl (q1 ?_)
  refine cP _ rfl (fun c2 => ?_) (fun c2 => ?_)
  ·refine q0 (lP 1 tK rfl (q1 (cR (xB (xR (xR (xB (xR (x1_ rfl rfl ?_)))))))))
   first
   | exact ⟨by rw [List.any_eq_true.2 ⟨l[i], gM hil, by simp [*]⟩], rfl⟩
   | exact ⟨by rw [any_no (by omega) hno], rfl⟩
  refine cK (x_blk (xS (cG (lP 1 tK rfl ?_))))
  refine lC (o_ai rfl rfl rfl (by omega) rfl rfl ?_)
  refine lP 1 tK rfl (lN ?_)
  exact x_round (i + 1) (s3 rfl rfl rfl) ⟨rfl, by omega, idx_step hno hil (by simpa [eq_comm] using c2)⟩ (by omega)
 refine c_exit (xE (xE (x_blkE (xS (q0 (lP 1 tK rfl (q1 (cR (x1_ rfl rfl ?_)))))))))
 first
 | exact ⟨by rw [List.any_eq_true.2 ⟨l[i], gM hil, by simp [*]⟩], rfl⟩
 | exact ⟨by rw [any_no (by omega) hno], rfl⟩
theorem rwordly_spec (w : World) (s : ByteArray) (hs : s.size < 140737488355328) :
  Calls Try.prog 121 #[.string s] w (Ret fun r w' => r = .bool (wordlyB s) ∧ w = w') := by
 refine cN (n := 32) Try.func121 rfl rfl rfl ?_
 refine q0 (lP 1 tK rfl (q1 (cS (q0 (lP 1 tK rfl (q1 (cB ?_)))))))
 refine c_loop (X := Nat) (fun i => [(0, .string s), (3, .int .i64 (i : Nat))]) (fun i w' => w = w' ∧ i ≤ s.size ∧ ∀ j, j < i → wordAt s j = true) (fun i => s.size - i) (0) (s2 rfl rfl) ?_ ?_
 ·exact ⟨rfl, Nat.zero_le _, fun j hj => absurd hj (Nat.not_lt_zero _)⟩
 rintro i _ ⟨rfl, hi, hall⟩
 refine cS (q0 (lP 4 tK rfl (q1 ?_)))
 refine cP _ rfl (fun c1 => ?_) (fun c1 => ?_)
 ·refine cK (xS (cS (cB (q0 (lP 2 tK rfl ?_)))))
  have his : i < s.size := by omega
  have hd : s.data[i]? = some s.data[i] := Array.getElem?_eq_getElem his
  generalize hcc : s.data[i] = ch at hd
  refine lC (o_si tK rfl rfl rfl rfl rfl hd rfl rfl ?_)
  refine lC (oK fo133 rfl rfl rfl (kind_spec _ ch) ?_)
  rintro _ _ ⟨rfl, rfl⟩
  refine lP 1 tK rfl (q1 (q0 (lP 3 tK rfl ?_)))
  refine lS 17 _ rfl (fun c2 => ?_) (fun c2 => ?_)
  ·refine lP 11 tK rfl (q1 (cI rfl (q0 (lP 1 tK rfl (q1 (cR (xB (xR (xR (xB (xR (x1_ rfl rfl ?_))))))))))))
   first
   | exact ⟨by rw [word_all (by omega) hall]; congr 1; rw [Bool.eq_iff_iff]; simp only [ne_eq, decide_eq_true_eq]; omega, rfl⟩
   | exact ⟨by rw [word_no (i := i) (by omega) (by rw [word_kind hd]; simp_all)], rfl⟩
  refine lP 4 tK rfl ?_
  refine lS 21 _ rfl (fun c3 => ?_) (fun c3 => ?_)
  ·refine lP 7 tK rfl (q1 (cI rfl (q0 (lP 1 tK rfl (q1 (cR (xB (xR (xR (xB (xR (x1_ rfl rfl ?_))))))))))))
   first
   | exact ⟨by rw [word_all (by omega) hall]; congr 1; rw [Bool.eq_iff_iff]; simp only [ne_eq, decide_eq_true_eq]; omega, rfl⟩
   | exact ⟨by rw [word_no (i := i) (by omega) (by rw [word_kind hd]; simp_all)], rfl⟩
  refine lP 3 tK rfl ?_
  refine lS 24 _ rfl (fun c4 => ?_) (fun c4 => ?_)
  ·refine lP 4 tK rfl (q1 ?_)
   refine c_ifN _ rfl (fun c5 => ?_) (fun c5 => ?_)
   ·refine q0 (lP 1 tK rfl (q1 (cR (xB (xR (xR (xB (xR (x1_ rfl rfl ?_)))))))))
    first
    | exact ⟨by rw [word_all (by omega) hall]; congr 1; rw [Bool.eq_iff_iff]; simp only [ne_eq, decide_eq_true_eq]; omega, rfl⟩
    | exact ⟨by rw [word_no (i := i) (by omega) (by rw [word_kind hd]; simp_all)], rfl⟩
   refine cK (x_blk (xS (cG (lP 1 tK rfl ?_))))
   refine lC (o_ai rfl rfl rfl (by omega) rfl rfl ?_)
   refine lP 1 tK rfl (lN ?_)
   exact x_round (i + 1) (s2 rfl rfl) ⟨rfl, by omega, word_step hall (by rw [word_kind hd]; simp_all)⟩ (by omega)
  refine lP 4 tK rfl (q1 (c_ifF rfl (cK (x_blk (xS (cG (lP 1 tK rfl ?_)))))))
  refine lC (o_ai rfl rfl rfl (by omega) rfl rfl ?_)
  refine lP 1 tK rfl (lN ?_)
  exact x_round (i + 1) (s2 rfl rfl) ⟨rfl, by omega, word_step hall (by rw [word_kind hd]; simp_all)⟩ (by omega)
 refine c_exit (xE (xE (x_blkE (xS (q0 (lP 4 tK rfl (q1 (cR (x1_ rfl rfl ?_)))))))))
 first
 | exact ⟨by rw [word_all (by omega) hall]; congr 1; rw [Bool.eq_iff_iff]; simp only [ne_eq, decide_eq_true_eq]; omega, rfl⟩
 | exact ⟨by rw [word_no (i := i) (by omega) (by rw [word_kind hd]; simp_all)], rfl⟩
theorem rown_spec (M : Nat → Prop) (w : World) (Lw : Low M w) :
  Calls Try.prog 120 #[] w (Ret fun r w' => (∃ a b, r = .tuple #[a, b] ∧ Sl M w' a ownW) ∧ Ext w w') := by
 have hE := Below.refl w.heap.size w
 have hB := lR w.heap.size
 refine cN (n := 4) Try.func120 rfl rfl rfl ?_
 refine q0 (lP 2 tK rfl (q1 (q0 ?_)))
 refine lC (o_bs tK rfl rfl rfl rfl rfl rfl rfl (by decide) rfl rfl rfl ?_)
 intro bw1 w1 qbw1 ew1 hbw1
 have nbw1 := nO Lw qbw1
 replace hE := ew1.bl hE hB
 replace Lw := Lw.Y ew1
 replace hB := ew1.z hB
 have hl : Sl M w1 (.slice (some ⟨bw1, 0, none⟩) 15 15) ownW := lit_sl (us := ownW.map fun s => .string s) (l := ownW) hbw1 nbw1 (by simp only [ownW, List.map_cons, List.map_nil]; exact ⟨⟨rfl, by decide⟩, ⟨⟨rfl, by decide⟩, ⟨⟨rfl, by decide⟩, ⟨⟨rfl, by decide⟩, ⟨⟨rfl, by decide⟩, ⟨⟨rfl, by decide⟩, ⟨⟨rfl, by decide⟩, ⟨⟨rfl, by decide⟩, ⟨⟨rfl, by decide⟩, ⟨⟨rfl, by decide⟩, ⟨⟨rfl, by decide⟩, ⟨⟨rfl, by decide⟩, ⟨⟨rfl, by decide⟩, ⟨⟨rfl, by decide⟩, ⟨⟨rfl, by decide⟩, trivial⟩⟩⟩⟩⟩⟩⟩⟩⟩⟩⟩⟩⟩⟩⟩) (by simp [ownW])
 refine lC (o_bs tK rfl rfl rfl rfl rfl rfl rfl (by decide) rfl rfl rfl ?_)
 intro bw2 w2 qbw2 ew2 hbw2
 have nbw2 := nO Lw qbw2
 replace hE := ew2.bl hE hB
 replace hl := hl.Y ew2
 replace Lw := Lw.Y ew2
 replace hB := ew2.z hB
 refine lP 2 tK rfl (q1 (cR (x_ret2 rfl rfl rfl ?_)))
 exact ⟨⟨_, _, rfl, hl⟩, hE⟩
theorem risWord_spec (M : Nat → Prop) (w : World) (s : ByteArray) (hs : s.size < 140737488355328) (Lw : Low M w) :
  Calls Try.prog 96 #[.string s] w (Ret fun r w' => r = .bool (isWordB s) ∧ Ext w w') := by
 have hE := Below.refl w.heap.size w
 have hB := lR w.heap.size
 refine cN (n := 22) Try.func96 rfl rfl rfl ?_
 refine q0 (lP 1 tK rfl (q1 (q0 ?_)))
 refine lC (oK fo120 rfl rfl rfl (rown_spec M _ Lw) ?_)
 rintro _ w1 ⟨⟨va, vb, rfl, hl⟩, ew1⟩
 replace hE := ew1.bl hE hB
 replace Lw := Lw.Y ew1
 replace hB := ew1.z hB
 refine lP 5 tK rfl (q1 (q0 (lP 1 tK rfl ?_)))
 refine lC (oK fo121 rfl rfl rfl (rwordly_spec _ s hs) ?_)
 rintro _ _ ⟨rfl, rfl⟩
 refine lP 1 tK rfl ?_
 refine l_split 11 _ rfl (fun c1 => ?_) (fun c1 => ?_)
 ·refine lP 2 tK rfl ?_
  refine lC (oK fo122 rfl rfl rfl (show Calls _ _ _ _ (Ret fun r w' => r = .bool (ownB s) ∧ w1 = w') from in2_spec M _ _ ownW s hl) ?_)
  rintro _ _ ⟨rfl, rfl⟩
  refine lP 3 tK rfl ?_
  refine l_splitB 17 _ rfl (fun c2 => ?_) (fun c2 => ?_)
  ·refine lP 5 tK rfl (q1 (cR (x1_ rfl rfl ?_)))
   exact ⟨by unfold isWordB; by_cases h32 : s.size ≤ 32 <;> simp_all <;> omega, hE⟩
  refine lP 5 tK rfl (q1 (cR (x1_ rfl rfl ?_)))
  exact ⟨by unfold isWordB; by_cases h32 : s.size ≤ 32 <;> simp_all <;> omega, hE⟩
 refine lP 11 tK rfl (q1 (cR (x1_ rfl rfl ?_)))
 exact ⟨by unfold isWordB; by_cases h32 : s.size ≤ 32 <;> simp_all <;> omega, hE⟩
end Go.Proofs.Ytpoahmeacjggfaa
namespace Rw
open Go Go.RowKit
theorem beq_run {P : Program} {t : TypeId} (hd : P.underlying t = some .bool) (a b : Bool) (w : World) : (Op.equal t (.bool a) (.bool b)).run P w = .ok (a == b) w := by
  show (Op.equalIn (9999 + 1) t (.bool a) (.bool b)).run P w = _
  unfold Op.equalIn
  simp only [Sem.run_bind, run_underlying hd, Result.andThen_ok, Sem.run_pure]
section
variable {P : Program} {T : Tab} {n : Nat} {ops : Array Oper} {Q : Exit → Act → World → Prop} {G : Env} {w : World} {K : Env → World → Prop}
  {d ty : Nat} {pos : String} {af : Array Go.Edge} {g : Option (Nat × Bool)}
theorem o_beq {t t' : TypeId} {x y : Operand} {a b : Bool} {ti : TI} (hT : TabOk P T) (hx : Env.ev G x = some (.bool a)) (hy : Env.ev G y = some (.bool b)) (ht : T.get t = some ti) (htd : ti.d = .bool)
    (hg : gd ops G ⟨some d, .binOp .eql t x y t', ty, pos, af, g⟩ = some true) (hdn : Nat.blt d n = true) (h : K ((d, .bool (a == b)) :: G) w) : OW P n ops Q G w ⟨some d, .binOp .eql t x y t', ty, pos, af, g⟩ K := by
  have hd := (hT t ti ht).d
  rw [htd] at hd
  exact o_val hg rfl hdn (fun ac ha => by simp [execOp, ha.ev hx, ha.ev hy, eqGuard, binOp, beq_run hd]) h
theorem o_bne {t t' : TypeId} {x y : Operand} {a b : Bool} {ti : TI} (hT : TabOk P T) (hx : Env.ev G x = some (.bool a)) (hy : Env.ev G y = some (.bool b)) (ht : T.get t = some ti) (htd : ti.d = .bool)
    (hg : gd ops G ⟨some d, .binOp .neq t x y t', ty, pos, af, g⟩ = some true) (hdn : Nat.blt d n = true) (h : K ((d, .bool (!(a == b))) :: G) w) : OW P n ops Q G w ⟨some d, .binOp .neq t x y t', ty, pos, af, g⟩ K := by
  have hd := (hT t ti ht).d
  rw [htd] at hd
  exact o_val hg rfl hdn (fun ac ha => by simp [execOp, ha.ev hx, ha.ev hy, eqGuard, binOp, beq_run hd]) h
theorem o_conv {src dst : TypeId} {x : Operand} {k k0 k1 : IntKind} {z y : Int} {ti ts : TI} (hT : TabOk P T) (hx : Env.ev G x = some (.int k0 z)) (hs : T.get src = some ts) (hsd : ts.d = .int k1) (ht : T.get dst = some ti) (htd : ti.d = .int k) (hw : k.wrap z = y)
    (hg : gd ops G ⟨some d, .convert src dst x, ty, pos, af, g⟩ = some true) (hdn : Nat.blt d n = true) (h : K ((d, .int k y) :: G) w) : OW P n ops Q G w ⟨some d, .convert src dst x, ty, pos, af, g⟩ K := by
  have hd := (hT dst ti ht).d
  rw [htd] at hd
  have hd2 := (hT src ts hs).d
  rw [hsd] at hd2
  simp only [TD.Ok] at hd hd2
  exact o_val hg rfl hdn (fun ac ha => by simp [execOp, ha.ev hx, convert, run_underlying hd, run_underlying hd2, Conv.intToInt, hw]) h
theorem o_half {t t' : TypeId} {x : Operand} {k k2 : IntKind} {z y : Int} (hx : Env.ev G x = some (.int k z)) (hk : k.bits = 64) (hz : 0 ≤ z) (hy : z / 2 = y)
    (hg : gd ops G ⟨some d, .binOp .shr t x (.const (.int k2 1)) t', ty, pos, af, g⟩ = some true) (hdn : Nat.blt d n = true) (h : K ((d, .int k y) :: G) w) : OW P n ops Q G w ⟨some d, .binOp .shr t x (.const (.int k2 1)) t', ty, pos, af, g⟩ K := by
  refine o_val hg rfl hdn (fun ac ha => ?_) h
  have e : z.fdiv 2 = y := by rw [Int.fdiv_eq_ediv_of_nonneg _ (by omega)]; exact hy
  have hy2 : Env.ev G (.const (.int k2 1)) = some (.int k2 1) := rfl
  simp [execOp, ha.ev hx, ha.ev hy2, eqGuard, binOp, Op.shift, hk, e]
end
open Go Go.RowKit
section
variable {P : Program} {ops : Array Oper} {Q : Exit → Act → World → Prop}
def closedL (ops : Array Oper) (listed : Array Bool) : Prop :=
  ∀ j o, ops[j]? = some o → listed.getD j false = true → ∀ e ∈ o.after, Region.binds .any e = true → listed.getD e.on false = true
def edgeTo (ops : Array Oper) (k : Nat) (D : List Nat) : Bool :=
  match ops[k]? with
  | some o => o.after.any fun e => Region.binds .any e && D.contains e.on
  | none => false
/-- What waits for number i, and what waits for that, and so on. -/
def descs (ops : Array Oper) (i : Nat) : List Nat :=
  (List.range ops.size).foldl (fun D k => if k == i || edgeTo ops k D then k :: D else D) []
theorem descs_spec (i : Nat) {listed : Array Bool} (hc : closedL ops listed) : ∀ k ∈ descs ops i, listed.getD k false = true → listed.getD i false = true := by
  have key : ∀ (l : List Nat) (D : List Nat), (∀ k ∈ D, listed.getD k false = true → listed.getD i false = true) →
      ∀ k ∈ l.foldl (fun D k => if k == i || edgeTo ops k D then k :: D else D) D, listed.getD k false = true → listed.getD i false = true := by
    intro l
    induction l with
    | nil => intro D h; simpa using h
    | cons x l ih =>
      intro D h
      simp only [List.foldl_cons]
      refine ih _ ?_
      split
      · rename_i hx
        intro k hk hl
        rcases List.mem_cons.1 hk with rfl | hk
        · simp only [Bool.or_eq_true, beq_iff_eq] at hx
          rcases hx with rfl | hx
          · exact hl
          · unfold edgeTo at hx
            split at hx
            · rename_i o ho
              simp only [Array.any_eq_true', Bool.and_eq_true, List.contains_iff_mem] at hx
              obtain ⟨e, he, hb, hm⟩ := hx
              exact h _ hm (hc _ o ho hl e he hb)
            · cases hx
        · exact h k hk hl
      · exact h
  exact key _ [] (by simp)
/-- All that has come up is waited for. -/
def bar (ops : Array Oper) (listed : Array Bool) (j : Nat) : Bool :=
  (List.range ops.size).all fun i => !listed.getD i false || edgeTo ops j (descs ops i)
def wpB (P : Program) (ops : Array Oper) (Q : Exit → Act → World → Prop) : (World → Prop) → Nat → Array Bool → Act → World → Prop
  | _, 0, listed, a, w => Region.ready .any ops listed = [] ∧ Q .normal a w
  | S, fuel + 1, listed, a, w =>
    (Region.ready .any ops listed = [] → Q .normal a w) ∧
    ∀ i ∈ Region.ready .any ops listed, wpOp P ops Q i (fun a' w' => ∃ S', ((S w' ∧ S' = S) ∨ bar ops listed i = true) ∧ wpB P ops Q S' fuel (listed.setIfInBounds i true) a' w') a w
variable {S : World → Prop}
theorem wpAny_of_B : ∀ (fuel : Nat) (S : World → Prop) (listed : Array Bool) (a : Act) (w : World), wpB P ops Q S fuel listed a w → wpAny P .any ops Q fuel listed a w
  | 0, _, _, _, _, h => h
  | fuel + 1, _, _, _, _, h => ⟨h.1, fun i hi => wpOp_mono (fun a' w' h' => let ⟨S', _, h2⟩ := h'; wpAny_of_B fuel S' _ a' w' h2) (h.2 i hi)⟩
theorem getD_set {listed : Array Bool} {i j : Nat} : (listed.setIfInBounds i true).getD j false = true ↔ ((i = j ∧ i < listed.size) ∨ listed.getD j false = true) := by
  by_cases h : i = j
  · subst h
    rcases Nat.lt_or_ge i listed.size with h' | h'
    · simp [h']
    · simp [Nat.not_lt.2 h']
  · rw [getD_set_ne false h]; simp [h]
theorem closedL_set {listed : Array Bool} {j : Nat} (hc : closedL ops listed) (hr : j ∈ Region.ready .any ops listed) : closedL ops (listed.setIfInBounds j true) := by
  intro k o ho hk e he hb
  rw [getD_set] at hk ⊢
  rcases hk with ⟨rfl, _⟩ | hk
  · obtain ⟨_, o', ho', hall⟩ := mem_ready.1 hr
    rw [ho] at ho'
    cases ho'
    exact .inr (hall e he hb)
  · exact .inr (hc k o ho hk e he hb)
theorem size_lt_of_ready {listed : Array Bool} {i : Nat} (h : i ∈ Region.ready .any ops listed) : i < listed.size := by
  have h0 := (mem_ready.1 h).1
  rcases Nat.lt_or_ge i listed.size with h' | h'
  · exact h'
  · simp [Array.getElem?_eq_none h'] at h0
theorem wpB_first {i : Nat} {oi : Oper} {v : Value} (hi : ops[i]? = some oi) (hsel : ∀ (j : Nat) (o : Oper) cs b, ops[j]? = some o → o.op ≠ .select cs b)
    (hQ : ∀ c a w, Q (.panic c) (a.put oi.dst v) w → Q (.panic c) a w) :
    ∀ (fuel : Nat) (listed : Array Bool) (a : Act) (w : World),
      (∀ j oj, ops[j]? = some oj → j ≠ i → listed.getD j true = false → (∀ e ∈ oj.after, Region.binds .any e = true → e.on ≠ i) → oi.apart ops oj = true) →
      i ∈ Region.ready .any ops listed → closedL ops listed → YieldsIf P ops S oi v a → S w →
      wpB P ops Q S fuel (listed.setIfInBounds i true) (a.put oi.dst v) w → wpB P ops Q S (fuel + 1) listed a w := by
  intro fuel
  induction fuel with
  | zero =>
    intro listed a w _ hr _ hy hS H
    refine ⟨fun h => (by rw [h] at hr; cases hr), fun j hj => ?_⟩
    by_cases hji : j = i
    · subst hji; exact hy.wpOp hi hS ⟨S, .inl ⟨hS, rfl⟩, H⟩
    · have := ready_mono hj hji
      rw [H.1] at this
      cases this
  | succ fuel ih =>
    intro listed a w hfree hr hcl hy hS H
    refine ⟨fun h => (by rw [h] at hr; cases hr), fun j hj => ?_⟩
    by_cases hji : j = i
    · subst hji; exact hy.wpOp hi hS ⟨S, .inl ⟨hS, rfl⟩, H⟩
    · have h1 := H.2 j (ready_mono hj hji)
      obtain ⟨hjun, oj, hoj, hall⟩ := mem_ready.1 hj
      have hiun : ¬ listed.getD i false = true := by
        have h0 := (mem_ready.1 hr).1
        have hlt := size_lt_of_ready hr
        simp [hlt] at h0 ⊢
        exact h0
      have hnot : ∀ e ∈ oj.after, Region.binds .any e = true → e.on ≠ i := fun e he hb heq => hiun (heq ▸ hall e he hb)
      -- j isn't one that waits for i
      have hbar : ¬ bar ops (listed.setIfInBounds i true) j = true := by
        intro hb
        unfold bar at hb
        rw [List.all_eq_true] at hb
        have h2 := hb i (List.mem_range.2 (Array.getElem?_eq_some_iff.1 hi).1)
        have h3 : (listed.setIfInBounds i true).getD i false = true := getD_set.2 (.inl ⟨rfl, size_lt_of_ready hr⟩)
        rw [h3] at h2
        simp only [Bool.not_true, Bool.false_or] at h2
        unfold edgeTo at h2
        rw [hoj] at h2
        simp only [Array.any_eq_true', Bool.and_eq_true, List.contains_iff_mem] at h2
        obtain ⟨e, he, hbd, hm⟩ := h2
        exact hiun (descs_spec i hcl _ hm (hall e he hbd))
      have h2 := wpOp_putIf hoj (hfree j oj hoj hji hjun hnot) (fun cs b => hsel i oi cs b hi) (fun cs b => hsel j oj cs b hoj) hQ hy h1
      have hfree' : ∀ k ok, ops[k]? = some ok → k ≠ i → (listed.setIfInBounds j true).getD k true = false →
          (∀ e ∈ ok.after, Region.binds .any e = true → e.on ≠ i) → oi.apart ops ok = true := fun k ok hk hki hun hno => by
        refine hfree k ok hk hki ?_ hno
        by_cases hjk : j = k
        · subst hjk; exact hjun
        · rw [getD_set_ne true hjk] at hun; exact hun
      refine wpOp_mono (fun a' w' h3 => ?_) h2
      obtain ⟨h3a, S', h3b, h3c⟩ := h3
      obtain ⟨hS', rfl⟩ := h3b.resolve_right hbar
      refine ⟨_, .inl ⟨hS', rfl⟩, ih (listed.setIfInBounds j true) a' w' hfree' (ready_mono hr (Ne.symm hji)) (closedL_set hcl hj) h3a hS' ?_⟩
      rw [Array.setIfInBounds_comm _ _ hji]
      exact h3c
end
/-! ## By slots and values -/
def lst (n : Nat) (l : List Nat) : Array Bool := l.foldl (fun a i => a.setIfInBounds i true) (Array.replicate n false)
theorem lst_snoc (n : Nat) (l : List Nat) (i : Nat) : (lst n l).setIfInBounds i true = lst n (l ++ [i]) := by simp [lst]
def closedB (ops : Array Oper) (listed : Array Bool) : Bool :=
  (List.range ops.size).all fun j => !listed.getD j false || match ops[j]? with
    | some o => o.after.all fun e => !Region.binds .any e || listed.getD e.on false
    | none => true
theorem closedB_spec {ops : Array Oper} {listed : Array Bool} (h : closedB ops listed = true) : closedL ops listed := by
  intro j o ho hj e he hb
  unfold closedB at h
  rw [List.all_eq_true] at h
  have := h j (List.mem_range.2 (Array.getElem?_eq_some_iff.1 ho).1)
  simp only [hj, ho, Bool.not_true, Bool.false_or, Array.all_eq_true', Bool.or_eq_true, Bool.not_eq_true'] at this
  exact (this e he).resolve_left (by simp [hb])
/-- May number i be taken first? -/
def okTake (ops : Array Oper) (l : List Nat) (i : Nat) : Bool :=
  (Region.ready .any ops (lst ops.size l)).contains i && Region.free .any ops (lst ops.size l) i && closedB ops (lst ops.size l) && Region.noSelect ops
def okOne (ops : Array Oper) (l : List Nat) (i : Nat) : Bool := Region.ready .any ops (lst ops.size l) == [i]
def okBar (ops : Array Oper) (l : List Nat) (i : Nat) : Bool := bar ops (lst ops.size l) i
def okEnd (ops : Array Oper) (l : List Nat) : Bool := (Region.ready .any ops (lst ops.size l)).isEmpty
section
variable (P : Program) (n : Nat)
def WA (ops : Array Oper) (Q : Exit → Act → World → Prop) (S : World → Prop) (G : Env) (w : World) (fuel : Nat) (l : List Nat) : Prop :=
  ∀ a, Models n a G → wpB P ops Q S fuel (lst ops.size l) a w
end
section
variable {P : Program} {T : Tab} {n : Nat} {ops : Array Oper} {Q : Exit → Act → World → Prop} {S : World → Prop} {G : Env} {w : World} {l : List Nat} {fuel : Nat}
theorem a_beg {id : Nat} {ol : List Oper} (S : World → World → Prop) (hm : P.follows .mixedOrders = true) (h : ∀ w', Ext w w' → WA P n ol.toArray Q (S w') G w' ol.toArray.size []) : WC P n Q G w (.region id ol.toArray true) :=
  fun a ha => wp_region_any hm (wpAny_of_B _ (S w.drew) _ _ _ (by simpa [lst] using h w.drew (ext_drew w) a ha))
theorem a_end (hr : okEnd ops l = true) (h : WX n Q G w .normal) : WA P n ops Q S G w fuel l := by
  intro a ha
  have hr' : Region.ready .any ops (lst ops.size l) = [] := by simpa [okEnd] using hr
  cases fuel with
  | zero => exact ⟨hr', h a ha⟩
  | succ f => exact ⟨fun _ => h a ha, fun i hi => (by rw [hr'] at hi; cases hi)⟩
theorem a_one {o : Oper} (i : Nat) (hi : ops[i]? = some o) (hr : okOne ops l i = true) (h : OW P n ops Q G w o (fun G' w' => S w' ∧ WA P n ops Q S G' w' fuel (l ++ [i]))) : WA P n ops Q S G w (fuel + 1) l := by
  intro a ha
  have hr' : Region.ready .any ops (lst ops.size l) = [i] := by simpa [okOne] using hr
  refine ⟨fun h0 => (by rw [hr'] at h0; cases h0), fun j hj => ?_⟩
  rw [hr'] at hj
  obtain rfl : j = i := by simpa using hj
  have := h a ha (fun a' w' => S w' ∧ wpB P ops Q S fuel (lst ops.size (l ++ [j])) a' w') (fun G' w' hk a' ha' => ⟨hk.1, hk.2 a' ha'⟩)
  unfold wpOp
  simp only [hi, lst_snoc]
  split
  · rename_i hw; rw [if_pos hw] at this; exact .inl (Oper.wp_mono (fun _ _ h => ⟨S, .inl ⟨h.1, rfl⟩, h.2⟩) this)
  · rename_i hw; rw [if_neg hw] at this; exact ⟨S, .inl ⟨this.1, rfl⟩, this.2⟩
theorem a_bar {o : Oper} (i : Nat) (hi : ops[i]? = some o) (hr : okOne ops l i = true) (hb : okBar ops l i = true) (h : OW P n ops Q G w o (fun G' w' => WA P n ops Q S G' w' fuel (l ++ [i]))) : WA P n ops Q S G w (fuel + 1) l := by
  intro a ha
  have hr' : Region.ready .any ops (lst ops.size l) = [i] := by simpa [okOne] using hr
  refine ⟨fun h0 => (by rw [hr'] at h0; cases h0), fun j hj => ?_⟩
  rw [hr'] at hj
  obtain rfl : j = i := by simpa using hj
  have := h a ha (fun a' w' => wpB P ops Q S fuel (lst ops.size (l ++ [j])) a' w') (fun G' w' hk a' ha' => hk a' ha')
  unfold wpOp
  simp only [hi, lst_snoc]
  split
  · rename_i hw; rw [if_pos hw] at this; exact .inl (Oper.wp_mono (fun _ _ h => ⟨S, .inr hb, h⟩) this)
  · rename_i hw; rw [if_neg hw] at this; exact ⟨S, .inr hb, this⟩
theorem a_barS {o : Oper} (S' : World → World → Prop) (i : Nat) (hi : ops[i]? = some o) (hr : okOne ops l i = true) (hb : okBar ops l i = true) (h : OW P n ops Q G w o (fun G' w' => WA P n ops Q (S' w') G' w' fuel (l ++ [i]))) : WA P n ops Q S G w (fuel + 1) l := by
  intro a ha
  have hr' : Region.ready .any ops (lst ops.size l) = [i] := by simpa [okOne] using hr
  refine ⟨fun h0 => (by rw [hr'] at h0; cases h0), fun j hj => ?_⟩
  rw [hr'] at hj
  obtain rfl : j = i := by simpa using hj
  have := h a ha (fun a' w' => wpB P ops Q (S' w') fuel (lst ops.size (l ++ [j])) a' w') (fun G' w' hk a' ha' => hk a' ha')
  unfold wpOp
  simp only [hi, lst_snoc]
  split
  · rename_i hw; rw [if_pos hw] at this; exact .inl (Oper.wp_mono (fun _ w2 h => ⟨S' w2, .inr hb, h⟩) this)
  · rename_i hw; rw [if_neg hw] at this; exact ⟨S' _, .inr hb, this⟩
/-- Each that may come up does. -/
def AllA (P : Program) (n : Nat) (ops : Array Oper) (Q : Exit → Act → World → Prop) (S : World → Prop) (G : Env) (w : World) (fuel : Nat) (l : List Nat) : List Nat → Prop
  | [] => True
  | i :: r => (∃ o, ops[i]? = some o ∧ OW P n ops Q G w o (fun G' w' => S w' ∧ WA P n ops Q S G' w' fuel (l ++ [i]))) ∧ AllA P n ops Q S G w fuel l r
theorem a_all (rs : List Nat) (hr : (Region.ready .any ops (lst ops.size l) == rs) = true) (hne : rs.isEmpty = false) (h : AllA P n ops Q S G w fuel l rs) : WA P n ops Q S G w (fuel + 1) l := by
  intro a ha
  have hr' : Region.ready .any ops (lst ops.size l) = rs := by simpa using hr
  refine ⟨fun h0 => (by rw [hr'] at h0; rw [h0] at hne; cases hne), fun j hj => ?_⟩
  rw [hr'] at hj
  have : ∃ o, ops[j]? = some o ∧ OW P n ops Q G w o (fun G' w' => S w' ∧ WA P n ops Q S G' w' fuel (l ++ [j])) := by
    clear hr hr' hne
    induction rs with
    | nil => cases hj
    | cons x r ih =>
      rcases List.mem_cons.1 hj with rfl | hj
      · exact h.1
      · exact ih h.2 hj
  obtain ⟨o, hi, h⟩ := this
  have := h a ha (fun a' w' => S w' ∧ wpB P ops Q S fuel (lst ops.size (l ++ [j])) a' w') (fun G' w' hk a' ha' => ⟨hk.1, hk.2 a' ha'⟩)
  unfold wpOp
  simp only [hi, lst_snoc]
  split
  · rename_i hw; rw [if_pos hw] at this; exact .inl (Oper.wp_mono (fun _ _ h => ⟨S, .inl ⟨h.1, rfl⟩, h.2⟩) this)
  · rename_i hw; rw [if_neg hw] at this; exact ⟨S, .inl ⟨this.1, rfl⟩, this.2⟩
theorem all_cons {i : Nat} {r : List Nat} {o : Oper} (hi : ops[i]? = some o) (h : OW P n ops Q G w o (fun G' w' => S w' ∧ WA P n ops Q S G' w' fuel (l ++ [i]))) (hr : AllA P n ops Q S G w fuel l r) : AllA P n ops Q S G w fuel l (i :: r) := ⟨⟨o, hi, h⟩, hr⟩
theorem all_nil : AllA P n ops Q S G w fuel l [] := trivial
theorem a_take {o : Oper} {d : Nat} {v : Value} (i : Nat) (hi : ops[i]? = some o) (hd : o.dst = some d) (hdn : Nat.blt d n = true) (hr : okTake ops l i = true)
    (hQ : ∀ c a w, Q (.panic c) (a.put (some d) v) w → Q (.panic c) a w) (hy : ∀ a, Models n a G → YieldsIf P ops S o v a) (hS : S w) (h : WA P n ops Q S ((d, v) :: G) w fuel (l ++ [i])) : WA P n ops Q S G w (fuel + 1) l := by
  intro a ha
  simp only [okTake, Bool.and_eq_true, List.contains_iff_mem] at hr
  obtain ⟨⟨⟨h1, h2⟩, h3⟩, h4⟩ := hr
  refine wpB_first hi (Region.noSelect_spec h4) (by rw [hd]; exact hQ) fuel _ a w (Region.free_spec hi h2) h1 (closedB_spec h3) (hy a ha) hS ?_
  rw [lst_snoc, hd]
  exact h _ (ha.put hdn v)
theorem a_split (t : Nat) (b : Bool) (hc : Env.get G t = some (.bool b)) (ht : b = true → WA P n ops Q S ((t, .bool true) :: G) w fuel l) (hf : b = false → WA P n ops Q S ((t, .bool false) :: G) w fuel l) : WA P n ops Q S G w fuel l := by
  intro a ha
  cases hb : b with
  | true => exact ht hb a (ha.write (hb ▸ hc))
  | false => exact hf hb a (ha.write (hb ▸ hc))
theorem a_splitP (t : Nat) (p : Prop) [Decidable p] (hc : Env.get G t = some (.bool (decide p))) (ht : p → WA P n ops Q S ((t, .bool true) :: G) w fuel l) (hf : ¬ p → WA P n ops Q S ((t, .bool false) :: G) w fuel l) : WA P n ops Q S G w fuel l :=
  a_split t _ hc (fun h => ht (of_decide_eq_true h)) (fun h => hf (of_decide_eq_false h))
theorem a_p {op : Op} {d ty : Nat} {pos : String} {af : Array Go.Edge} {g : Option (Nat × Bool)} {v : Value} (i : Nat) (hT : TabOk P T) (hi : ops[i]? = some ⟨some d, op, ty, pos, af, g⟩) (hv : pureS T G op = some v) (hg : gd ops G ⟨some d, op, ty, pos, af, g⟩ = some true)
    (hdn : Nat.blt d n = true) (hr : okTake ops l i = true) (hQ : ∀ c a w, Q (.panic c) (a.put (some d) v) w → Q (.panic c) a w) (hS : S w) (h : WA P n ops Q S ((d, v) :: G) w fuel (l ++ [i])) : WA P n ops Q S G w (fuel + 1) l :=
  a_take i hi rfl hdn hr hQ (fun _ ha => .inl ⟨wanted_of_gd ha hg, fun w' _ => pureS_run hT ha hv w'⟩) hS h
theorem aK {op : Op} {d ty : Nat} {pos : String} {af : Array Go.Edge} {g : Option (Nat × Bool)} (i : Nat) (hi : ops[i]? = some ⟨some d, op, ty, pos, af, g⟩) (hg : gd ops G ⟨some d, op, ty, pos, af, g⟩ = some false)
    (hdn : Nat.blt d n = true) (hr : okTake ops l i = true) (hQ : ∀ c a w, Q (.panic c) (a.put (some d) undef) w → Q (.panic c) a w) (hS : S w) (h : WA P n ops Q S ((d, undef) :: G) w fuel (l ++ [i])) : WA P n ops Q S G w (fuel + 1) l :=
  a_take i hi rfl hdn hr hQ (fun _ ha => .inr ⟨wanted_of_gd ha hg, rfl⟩) hS h
theorem a_q {o : Oper} {d : Nat} {v : Value} (i : Nat) (hi : ops[i]? = some o) (hd : o.dst = some d) (hg : gd ops G o = some true) (hdn : Nat.blt d n = true) (hr : okTake ops l i = true)
    (hQ : ∀ c a w, Q (.panic c) (a.put (some d) v) w → Q (.panic c) a w) (hy : ∀ a, Models n a G → ∀ w, S w → (execOp a.eval o).run P w = .ok (.value v) w) (hS : S w) (h : WA P n ops Q S ((d, v) :: G) w fuel (l ++ [i])) : WA P n ops Q S G w (fuel + 1) l :=
  a_take i hi hd hdn hr hQ (fun a ha => .inl ⟨wanted_of_gd ha hg, hy a ha⟩) hS h
theorem run_ld {t : TypeId} {x : Operand} {v : Value} {b o : Nat} {ti : TI} {d : Option Nat} {ty : Nat} {pos : String} {af : Array Go.Edge} {g : Option (Nat × Bool)} (hT : TabOk P T) (hc : w.cell? ⟨b, o, none⟩ = some v) (hx : Env.ev G x = some (.pointer (some ⟨b, o, none⟩))) (ht : T.get t = some ti) (hta : ti.d.agg = false)
    {a : Act} (ha : Models n a G) : (execOp a.eval ⟨d, .load t x, ty, pos, af, g⟩).run P w = .ok (.value v) w := by
  simp [execOp, ha.ev hx, Instr.loadAt, Instr.sureAddr, loadVar, run_isAgg hT ht, hta, hc]
theorem run_lds {t : TypeId} {x : Operand} {cs : List Value} {b o : Nat} {ti : TI} {d : Option Nat} {ty : Nat} {pos : String} {af : Array Go.Edge} {g : Option (Nat × Bool)} (hT : TabOk P T) (hc : ∀ j v, cs[j]? = some v → w.cell? ⟨b, o + j, none⟩ = some v) (hx : Env.ev G x = some (.pointer (some ⟨b, o, none⟩))) (ht : T.get t = some ti) (hta : ti.d.agg = true)
    (hl : cs.length = ti.size) {a : Act} (ha : Models n a G) : (execOp a.eval ⟨d, .load t x, ty, pos, af, g⟩).run P w = .ok (.value (.agg cs.toArray)) w := by
  have hlc : (loadCells ⟨b, o, none⟩ ti.size).run P w = .ok cs.toArray w := by
    rw [← hl]
    exact run_loadCells_list (P := P) w ⟨b, o, none⟩ cs (fun j v hv => by rw [addr_add]; exact hc j v hv)
  simp [execOp, ha.ev hx, Instr.loadAt, Instr.sureAddr, loadVar, run_isAgg hT ht, hta, run_sizeOf hT ht, hlc]
theorem a_ld {t : TypeId} {x : Operand} {v : Value} {b o : Nat} {ti : TI} {d ty : Nat} {pos : String} {af : Array Go.Edge} {g : Option (Nat × Bool)} (i : Nat) (hT : TabOk P T) (hc : ∀ w, S w → w.cell? ⟨b, o, none⟩ = some v) (hi : ops[i]? = some ⟨some d, .load t x, ty, pos, af, g⟩) (hx : Env.ev G x = some (.pointer (some ⟨b, o, none⟩))) (ht : T.get t = some ti) (hta : ti.d.agg = false)
    (hg : gd ops G ⟨some d, .load t x, ty, pos, af, g⟩ = some true) (hdn : Nat.blt d n = true) (hr : okTake ops l i = true) (hQ : ∀ c a w, Q (.panic c) (a.put (some d) v) w → Q (.panic c) a w) (hS : S w)
    (h : WA P n ops Q S ((d, v) :: G) w fuel (l ++ [i])) : WA P n ops Q S G w (fuel + 1) l :=
  a_q i hi rfl hg hdn hr hQ (fun _ ha _ hs => run_ld hT (hc _ hs) hx ht hta ha) hS h
theorem a_lds {t : TypeId} {x : Operand} {cs : List Value} {b o : Nat} {ti : TI} {d ty : Nat} {pos : String} {af : Array Go.Edge} {g : Option (Nat × Bool)} (i : Nat) (hT : TabOk P T) (hc : ∀ w, S w → ∀ j v, cs[j]? = some v → w.cell? ⟨b, o + j, none⟩ = some v) (hi : ops[i]? = some ⟨some d, .load t x, ty, pos, af, g⟩) (hx : Env.ev G x = some (.pointer (some ⟨b, o, none⟩))) (ht : T.get t = some ti) (hta : ti.d.agg = true) (hl : cs.length = ti.size)
    (hg : gd ops G ⟨some d, .load t x, ty, pos, af, g⟩ = some true) (hdn : Nat.blt d n = true) (hr : okTake ops l i = true) (hQ : ∀ c a w, Q (.panic c) (a.put (some d) (.agg cs.toArray)) w → Q (.panic c) a w) (hS : S w)
    (h : WA P n ops Q S ((d, .agg cs.toArray) :: G) w fuel (l ++ [i])) : WA P n ops Q S G w (fuel + 1) l :=
  a_q i hi rfl hg hdn hr hQ (fun _ ha _ hs => run_lds hT (hc _ hs) hx ht hta hl ha) hS h
theorem a_ixS {α : Type} [Rep α] {M : Nat → Prop} {w0 : World} {v : Value} {k : List α} {t : TypeId} {x ix : Operand} {kd : IntKind} {z : Int} {j : Nat} {y : α} {ti te : TI} {e : Nat} {d ty : Nat} {pos : String} {af : Array Go.Edge} {g : Option (Nat × Bool)} (i : Nat) (hT : TabOk P T) (hs : Sl M w0 v k) (hy : k[j]? = some y) (hi : ops[i]? = some ⟨some d, .indexAddr t x ix, ty, pos, af, g⟩)
    (hx : Env.ev G x = some v) (hix : Env.ev G ix = some (.int kd z)) (hj : z = (j : Int)) (ht : T.get t = some ti) (htd : ti.d = .sl e) (hte : T.get e = some te) (hsz : te.size = Rep.sz α)
    (hg : gd ops G ⟨some d, .indexAddr t x ix, ty, pos, af, g⟩ = some true) (hdn : Nat.blt d n = true) (hr : okTake ops l i = true) (hQ : ∀ v c a w, Q (.panic c) (a.put (some d) v) w → Q (.panic c) a w) (hS : S w)
    (h : ∀ b o u, Rep.R M w0 u y → At M w0 b o u.cells.toList → WA P n ops Q S ((d, .pointer (some ⟨b, o, none⟩)) :: G) w fuel (l ++ [i])) : WA P n ops Q S G w (fuel + 1) l := by
  obtain ⟨a, c, rfl, _, _, he⟩ := hs
  have hlt : j < k.length := (List.getElem?_eq_some_iff.1 hy).1
  rcases he with he | ⟨b, off, ha, hel⟩
  · subst he; simp at hlt
  · subst ha
    obtain ⟨u, h1, h2⟩ := hel j y hy
    have hd := (hT t _ ht).d
    rw [htd] at hd
    simp only [TD.Ok] at hd
    subst hj
    have hb : (0 : Int) ≤ (j : Int) ∧ (j : Int) < (k.length : Int) := by omega
    refine a_q (v := .pointer (some ⟨b, off + j * te.size, none⟩)) i hi rfl hg hdn hr (hQ _) (fun a' ha' w' _ => ?_) hS (h b _ u h1 (by rw [hsz]; exact h2))
    simp [execOp, ha'.ev hx, ha'.ev hix, Instr.indexAt, asIntOf, run_underlying hd, hb, run_sizeOf hT hte, addr_add]
    intro hge
    omega
theorem a_si {t : TypeId} {x ix : Operand} {s : ByteArray} {k : IntKind} {z : Int} {j : Nat} {c : UInt8} {ti : TI} {d ty : Nat} {pos : String} {af : Array Go.Edge} {g : Option (Nat × Bool)} (i : Nat) (hT : TabOk P T) (hc : s.data[j]? = some c) (hi : ops[i]? = some ⟨some d, .index t x ix, ty, pos, af, g⟩)
    (hx : Env.ev G x = some (.string s)) (hix : Env.ev G ix = some (.int k z)) (hj : z = (j : Int)) (ht : T.get t = some ti) (htd : ti.d = .str)
    (hg : gd ops G ⟨some d, .index t x ix, ty, pos, af, g⟩ = some true) (hdn : Nat.blt d n = true) (hr : okTake ops l i = true) (hQ : ∀ c' a w, Q (.panic c') (a.put (some d) (.int .u8 c.toNat)) w → Q (.panic c') a w) (hS : S w)
    (h : WA P n ops Q S ((d, .int .u8 c.toNat) :: G) w fuel (l ++ [i])) : WA P n ops Q S G w (fuel + 1) l := by
  refine a_q (v := .int .u8 c.toNat) i hi rfl hg hdn hr hQ (fun a ha w' _ => ?_) hS h
  exact run_si hT ha hx hix ht htd hj hc w'
end
/-- Which kids an op has; none: it is none. -/
def kidsOf (op : Int) : Option ByteArray :=
  if op = 1 ∨ op = 2 ∨ op = 3 ∨ op = 7 ∨ op = 8 ∨ op = 9 ∨ op = 10 then some ⟨#[]⟩ else if op = 4 then some ⟨#[116, 116]⟩ else if op = 5 ∨ op = 6 then some ⟨#[114]⟩ else if op = 11 then some ⟨#[116, 114]⟩ else none
def all2 : List (UInt8 → Bool) → List UInt8 → Bool
  | f :: fs, c :: cs => f c && all2 fs cs
  | [], [] => true
  | _, _ => false
theorem all2_true : ∀ {fs : List (UInt8 → Bool)} {cs : List UInt8}, fs.length = cs.length → (∀ (j : Nat) f c, fs[j]? = some f → cs[j]? = some c → f c = true) → all2 fs cs = true
  | [], [], _, _ => rfl
  | f :: fs, c :: cs, h, k => by
    have h1 := k 0 f c rfl rfl
    have h2 := all2_true (fs := fs) (cs := cs) (by simpa using h) (fun j f c hf hc => k (j + 1) f c (by simpa using hf) (by simpa using hc))
    simp [all2, h1, h2]
  | [], _ :: _, h, _ => by simp at h
  | _ :: _, [], h, _ => by simp at h
theorem all2_false : ∀ {fs : List (UInt8 → Bool)} {cs : List UInt8} {j : Nat} {f : UInt8 → Bool} {c : UInt8}, fs[j]? = some f → cs[j]? = some c → f c = false → all2 fs cs = false
  | f :: fs, c :: cs, 0, _, _, hf, hc, h => by
    simp at hf hc; subst hf; subst hc
    simp [all2, h]
  | f :: fs, c :: cs, j + 1, _, _, hf, hc, h => by
    have := all2_false (fs := fs) (cs := cs) (j := j) (by simpa using hf) (by simpa using hc) h
    simp [all2, this]
  | [], _, _, _, _, hf, _, _ => by simp at hf
  | _ :: _, [], _, _, _, _, hc, _ => by simp at hc
theorem all2_len : ∀ {fs : List (UInt8 → Bool)} {cs : List UInt8}, fs.length ≠ cs.length → all2 fs cs = false
  | [], [], h => absurd rfl h
  | f :: fs, c :: cs, h => by
    have := all2_len (fs := fs) (cs := cs) (by simpa using h)
    simp [all2, this]
  | [], _ :: _, _ => rfl
  | _ :: _, [], _ => rfl
/-- A part's own: its name, its number. -/
def headOk (op : Int) (name : ByteArray) (n : Int) : Bool :=
  (if op = 11 then isWordB name else decide (name = ⟨#[]⟩)) && (decide (0 ≤ n) && (decide (op = 7) || (decide (op = 10) || decide (n = 0))))
/-- A type (t) or a row (r), its variables apart? -/
def shapeF : Ty → UInt8 → Bool
  | .mk op name n l => fun c => match kidsOf op with
    | none => false
    | some ks => (decide (8 ≤ op) == decide ((c.toNat : Int) = 114)) && (headOk op name n && all2 (l.map shapeF) ks.data.toList)
theorem shapeF_eq (t : Ty) (c : UInt8) : shapeF t c = match kidsOf t.op with
    | none => false
    | some ks => (decide (8 ≤ t.op) == decide ((c.toNat : Int) = 114)) && (headOk t.op t.name t.n && all2 (t.kids.map shapeF) ks.data.toList) := by
  cases t; rw [shapeF]; rfl
theorem shape_none {t : Ty} {c : UInt8} (h : kidsOf t.op = none) : shapeF t c = false := by rw [shapeF_eq, h]
theorem shape_some {t : Ty} {c : UInt8} {ks : ByteArray} (h : kidsOf t.op = some ks) : shapeF t c = ((decide (8 ≤ t.op) == decide ((c.toNat : Int) = 114)) && (headOk t.op t.name t.n && all2 (t.kids.map shapeF) ks.data.toList)) := by rw [shapeF_eq, h]
theorem shape_len {t : Ty} {c : UInt8} {ks : ByteArray} (h : kidsOf t.op = some ks) (hl : t.kids.length ≠ ks.size) : shapeF t c = false := by
  rw [shape_some h, all2_len (by simpa using hl)]; simp
theorem shape_sort {t : Ty} {c : UInt8} {ks : ByteArray} (h : kidsOf t.op = some ks) (hl : (decide (8 ≤ t.op) == decide ((c.toNat : Int) = 114)) = false) : shapeF t c = false := by
  rw [shape_some h, hl]; rfl
theorem shape_head {t : Ty} {c : UInt8} (hl : headOk t.op t.name t.n = false) : shapeF t c = false := by
  cases h : kidsOf t.op with
  | none => exact shape_none h
  | some ks => rw [shape_some h, hl]; simp
theorem shape_kid {t : Ty} {c d : UInt8} {ks : ByteArray} {i : Nat} (h : kidsOf t.op = some ks) (hi : i < t.kids.length) (hd : ks.data[i]? = some d) (hl : shapeF t.kids[i] d = false) : shapeF t c = false := by
  rw [shape_some h, all2_false (j := i) (f := shapeF t.kids[i]) (c := d) (by simp [hi]) (by simpa using hd) hl]; simp
theorem shape_yes {t : Ty} {c : UInt8} {ks : ByteArray} (h : kidsOf t.op = some ks) (hl : t.kids.length = ks.size) (h1 : (decide (8 ≤ t.op) == decide ((c.toNat : Int) = 114)) = true) (h2 : headOk t.op t.name t.n = true)
    (hall : ∀ (j : Nat) x d, t.kids[j]? = some x → ks.data[j]? = some d → shapeF x d = true) : shapeF t c = true := by
  rw [shape_some h, h1, h2, all2_true (by simpa using hl) (fun j f d hf hd => ?_)]
  · rfl
  · rw [List.getElem?_map] at hf
    cases hx : t.kids[j]? with
    | none => rw [hx] at hf; simp at hf
    | some x =>
      rw [hx] at hf
      simp at hf
      subst hf
      exact hall j x d hx (by simpa using hd)
/-- Is no number that of both sorts of variables? -/
def onceB (t : Ty) : Bool := (partsL t).all fun x => (partsL t).all fun y => !(decide (x.op = 7) && (decide (y.op = 10) && decide (x.n = y.n)))
theorem once_no {t : Ty} {i j : Nat} (hi : i < (partsL t).length) (hj : j < (partsL t).length) (h1 : (partsL t)[i].op = 7) (h2 : (partsL t)[j].op = 10) (h3 : (partsL t)[i].n = (partsL t)[j].n) : onceB t = false := by
  unfold onceB
  rw [List.all_eq_false]
  refine ⟨_, gM hi, ?_⟩
  have : (partsL t).all (fun y => !(decide ((partsL t)[i].op = 7) && (decide (y.op = 10) && decide ((partsL t)[i].n = y.n)))) = false := by
    rw [List.all_eq_false]
    exact ⟨_, gM hj, by simp [h1, h2, h3]⟩
  rw [this]; simp
theorem once_yes {t : Ty} (h : ∀ (a b : Nat) (x y : Ty), (partsL t)[a]? = some x → (partsL t)[b]? = some y → ¬ (x.op = 7 ∧ y.op = 10 ∧ x.n = y.n)) : onceB t = true := by
  unfold onceB
  rw [List.all_eq_true]
  intro x hx
  rw [List.all_eq_true]
  intro y hy
  obtain ⟨a, ha, rfl⟩ := List.getElem_of_mem hx
  obtain ⟨b, hb, rfl⟩ := List.getElem_of_mem hy
  have := h a b _ _ (gE ha) (gE hb)
  rw [Bool.not_eq_true', Bool.eq_false_iff]
  intro h0
  simp only [Bool.and_eq_true, decide_eq_true_eq] at h0
  exact absurd h0 this
theorem conf_row {l : List Ty} {i : Nat} (h : ∀ (a b : Nat) (x y : Ty), a < i → l[a]? = some x → l[b]? = some y → ¬ (x.op = 7 ∧ y.op = 10 ∧ x.n = y.n)) (hi : i < l.length)
    (hk : ∀ (b : Nat) (y : Ty), b < l.length → l[b]? = some y → ¬ (l[i].op = 7 ∧ y.op = 10 ∧ l[i].n = y.n)) : ∀ (a b : Nat) (x y : Ty), a < i + 1 → l[a]? = some x → l[b]? = some y → ¬ (x.op = 7 ∧ y.op = 10 ∧ x.n = y.n) := by
  intro a b x y ha hx hy
  by_cases e : a = i
  · subst e
    rw [gE hi] at hx
    cases hx
    exact hk b y (List.getElem?_eq_some_iff.1 hy).1 hy
  · exact h a b x y (by omega) hx hy
theorem conf_step {l : List Ty} {x : Ty} {k : Nat} (h : ∀ (b : Nat) (y : Ty), b < k → l[b]? = some y → ¬ (x.op = 7 ∧ y.op = 10 ∧ x.n = y.n)) (hk : k < l.length) (e : ¬ (x.op = 7 ∧ l[k].op = 10 ∧ x.n = l[k].n)) :
    ∀ (b : Nat) (y : Ty), b < k + 1 → l[b]? = some y → ¬ (x.op = 7 ∧ y.op = 10 ∧ x.n = y.n) := by
  intro b y hb hy
  by_cases e' : b = k
  · subst e'
    rw [gE hk] at hy
    cases hy; exact e
  · exact h b y (by omega) hy
def rightB (t : Ty) : Bool := shapeF t 116 && onceB t
def rowB (t : Ty) : Bool := shapeF t 114 && onceB t
end Rw
