/- Part 1 of the proof: rules, plain laws and walks, merged out of smaller texts. -/
import Derived.Below
import Derived.Carry
import Derived.ChangeOld
import Derived.ChangeSame
import Derived.Deep.AppendSrc
import Derived.Deep.Slices
import Derived.Great.FillDense
import Derived.Ground.GgzProg
import Derived.Ground.SlgmProg
import Derived.JoinedCond
import Derived.Lib.Bytealg
import Derived.Lib.Walk
import Derived.Maps.Own
import Derived.OpenShut
import Derived.OrdersHeld
import Derived.ProofKit
import Derived.RangeFuncLeaves
import Derived.RangeFuncWrites
import Derived.Shelf.SlIter.Nil
import Derived.Shelf.SortM.Plain
import Derived.Shelf.SortM.SortNone
import Derived.ShutString
import Derived.SizedLaws
import Derived.Sort.Grow
import Derived.Sort.KeysCollected
import Derived.WalkKit
import Derived.Test.YtpoahmeacjggfaaGreatProg
import Derived.Test.YtpoahmeacjggfaaGreatRows
namespace Rw
open Go Go.RowKit
/-! ## Slots and their values -/
abbrev Env := List (Nat × Value)
def Env.get : Env → Nat → Option Value
  | [], _ => none
  | (k, v) :: r, n => bif Nat.beq k n then some v else Env.get r n
theorem Env.get_cons (k : Nat) (v : Value) (r : Env) (n : Nat) : Env.get ((k, v) :: r) n = if k = n then some v else Env.get r n := by
  by_cases h : k = n
  · subst h; simp [Env.get]
  · have : Nat.beq k n = false := by
      cases hb : Nat.beq k n
      · rfl
      · exact absurd (Nat.eq_of_beq_eq_true hb) h
    simp [Env.get, h, this]
def Env.ev (G : Env) : Operand → Option Value
  | .tmp t => Env.get G t
  | .const v => some v
  | .global g => some (.pointer (some ⟨g, 0, none⟩))
  | .func f => some (.func (.func f) #[] #[])
def Env.evs (G : Env) : List Operand → Option (List Value)
  | [] => some []
  | x :: r => match Env.ev G x with
    | some v => match Env.evs G r with
      | some vs => some (v :: vs)
      | none => none
    | none => none
/-- The frame holds what the list says. -/
structure Models (n : Nat) (a : Act) (G : Env) : Prop where
  size : a.tmps.size = n
  defers : a.defers = []
  val : ∀ k v, Env.get G k = some v → a.tmps[k]? = some v
theorem Models.ev {n : Nat} {a : Act} {G : Env} (h : Models n a G) {x : Operand} {v : Value} (hx : Env.ev G x = some v) : a.eval x = v := by
  cases x with
  | tmp t => have := h.val t v hx; simp [Act.eval, Array.getD_eq_getD_getElem?, this]
  | const u => simpa [Env.ev, Act.eval] using hx
  | global g => simpa [Env.ev, Act.eval] using hx
  | func f => simpa [Env.ev, Act.eval] using hx
theorem Models.evs {n : Nat} {a : Act} {G : Env} (h : Models n a G) : ∀ {l : List Operand} {vs : List Value}, Env.evs G l = some vs → l.map a.eval = vs
  | [], vs, hx => by simp [Env.evs] at hx; simp [hx]
  | x :: r, vs, hx => by
    simp only [Env.evs] at hx
    split at hx
    · rename_i v hv
      split at hx
      · rename_i us hus
        simp at hx
        subst hx
        simp [h.ev hv, h.evs hus]
      · cases hx
    · cases hx
theorem Models.put {n : Nat} {a : Act} {G : Env} (h : Models n a G) {d : Nat} (hd : Nat.blt d n = true) (v : Value) : Models n (a.put (some d) v) ((d, v) :: G) := by
  have hd' : d < n := Nat.le_of_ble_eq_true hd
  refine ⟨by simp [Act.put, h.size], by simp [Act.put, h.defers], fun k u hu => ?_⟩
  rw [Env.get_cons] at hu
  by_cases hk : d = k
  · subst hk
    simp at hu
    subst hu
    simp [Act.put, h.size, hd']
  · rw [if_neg hk] at hu
    simp [Act.put, Array.getElem?_setIfInBounds_ne hk, h.val k u hu]
theorem Models.put_none {n : Nat} {a : Act} {G : Env} (h : Models n a G) (v : Value) : Models n (a.put none v) G := h
/-- What one list says follows from what another says. -/
def Sub (G G' : Env) : Prop := ∀ k v, Env.get G' k = some v → Env.get G k = some v
theorem Models.sub {n : Nat} {a : Act} {G G' : Env} (h : Models n a G) (hs : Sub G G') : Models n a G' :=
  ⟨h.size, h.defers, fun k v hv => h.val k v (hs k v hv)⟩
theorem Models.write {n : Nat} {a : Act} {G : Env} (h : Models n a G) {t : Nat} {u : Value} (hu : Env.get G t = some u) : Models n a ((t, u) :: G) := by
  refine ⟨h.size, h.defers, fun k v hv => ?_⟩
  rw [Env.get_cons] at hv
  by_cases hk : t = k
  · subst hk; simp at hv; subst hv; exact h.val t _ hu
  · rw [if_neg hk] at hv; exact h.val k v hv
/-- Entry by entry. -/
def SubL (G : Env) : Env → Prop
  | [] => True
  | (k, v) :: r => Env.get G k = some v ∧ SubL G r
theorem Sub.of : ∀ {G' G : Env}, SubL G G' → Sub G G'
  | [], G, _ => fun k v h => by simp [Env.get] at h
  | (j, u) :: r, G, h => fun k v hv => by
    rw [Env.get_cons] at hv
    by_cases hj : j = k
    · subst hj; simp at hv; subst hv; exact h.1
    · rw [if_neg hj] at hv; exact Sub.of h.2 k v hv
theorem s1 {G : Env} {k1 : Nat} {v1 : Value} (h1 : Env.get G k1 = some v1) : SubL G [(k1, v1)] := ⟨h1, trivial⟩
theorem s2 {G : Env} {k1 : Nat} {v1 : Value} {k2 : Nat} {v2 : Value} (h1 : Env.get G k1 = some v1) (h2 : Env.get G k2 = some v2) : SubL G [(k1, v1), (k2, v2)] := ⟨h1, h2, trivial⟩
theorem s3 {G : Env} {k1 : Nat} {v1 : Value} {k2 : Nat} {v2 : Value} {k3 : Nat} {v3 : Value} (h1 : Env.get G k1 = some v1) (h2 : Env.get G k2 = some v2) (h3 : Env.get G k3 = some v3) : SubL G [(k1, v1), (k2, v2), (k3, v3)] := ⟨h1, h2, h3, trivial⟩
theorem s4 {G : Env} {k1 : Nat} {v1 : Value} {k2 : Nat} {v2 : Value} {k3 : Nat} {v3 : Value} {k4 : Nat} {v4 : Value} (h1 : Env.get G k1 = some v1) (h2 : Env.get G k2 = some v2) (h3 : Env.get G k3 = some v3) (h4 : Env.get G k4 = some v4) : SubL G [(k1, v1), (k2, v2), (k3, v3), (k4, v4)] := ⟨h1, h2, h3, h4, trivial⟩
theorem s5 {G : Env} {k1 : Nat} {v1 : Value} {k2 : Nat} {v2 : Value} {k3 : Nat} {v3 : Value} {k4 : Nat} {v4 : Value} {k5 : Nat} {v5 : Value} (h1 : Env.get G k1 = some v1) (h2 : Env.get G k2 = some v2) (h3 : Env.get G k3 = some v3) (h4 : Env.get G k4 = some v4) (h5 : Env.get G k5 = some v5) : SubL G [(k1, v1), (k2, v2), (k3, v3), (k4, v4), (k5, v5)] := ⟨h1, h2, h3, h4, h5, trivial⟩
theorem s6 {G : Env} {k1 : Nat} {v1 : Value} {k2 : Nat} {v2 : Value} {k3 : Nat} {v3 : Value} {k4 : Nat} {v4 : Value} {k5 : Nat} {v5 : Value} {k6 : Nat} {v6 : Value} (h1 : Env.get G k1 = some v1) (h2 : Env.get G k2 = some v2) (h3 : Env.get G k3 = some v3) (h4 : Env.get G k4 = some v4) (h5 : Env.get G k5 = some v5) (h6 : Env.get G k6 = some v6) : SubL G [(k1, v1), (k2, v2), (k3, v3), (k4, v4), (k5, v5), (k6, v6)] := ⟨h1, h2, h3, h4, h5, h6, trivial⟩
theorem s7 {G : Env} {k1 : Nat} {v1 : Value} {k2 : Nat} {v2 : Value} {k3 : Nat} {v3 : Value} {k4 : Nat} {v4 : Value} {k5 : Nat} {v5 : Value} {k6 : Nat} {v6 : Value} {k7 : Nat} {v7 : Value} (h1 : Env.get G k1 = some v1) (h2 : Env.get G k2 = some v2) (h3 : Env.get G k3 = some v3) (h4 : Env.get G k4 = some v4) (h5 : Env.get G k5 = some v5) (h6 : Env.get G k6 = some v6) (h7 : Env.get G k7 = some v7) : SubL G [(k1, v1), (k2, v2), (k3, v3), (k4, v4), (k5, v5), (k6, v6), (k7, v7)] := ⟨h1, h2, h3, h4, h5, h6, h7, trivial⟩
theorem s8 {G : Env} {k1 : Nat} {v1 : Value} {k2 : Nat} {v2 : Value} {k3 : Nat} {v3 : Value} {k4 : Nat} {v4 : Value} {k5 : Nat} {v5 : Value} {k6 : Nat} {v6 : Value} {k7 : Nat} {v7 : Value} {k8 : Nat} {v8 : Value} (h1 : Env.get G k1 = some v1) (h2 : Env.get G k2 = some v2) (h3 : Env.get G k3 = some v3) (h4 : Env.get G k4 = some v4) (h5 : Env.get G k5 = some v5) (h6 : Env.get G k6 = some v6) (h7 : Env.get G k7 = some v7) (h8 : Env.get G k8 = some v8) : SubL G [(k1, v1), (k2, v2), (k3, v3), (k4, v4), (k5, v5), (k6, v6), (k7, v7), (k8, v8)] := ⟨h1, h2, h3, h4, h5, h6, h7, h8, trivial⟩
theorem s9 {G : Env} {k1 : Nat} {v1 : Value} {k2 : Nat} {v2 : Value} {k3 : Nat} {v3 : Value} {k4 : Nat} {v4 : Value} {k5 : Nat} {v5 : Value} {k6 : Nat} {v6 : Value} {k7 : Nat} {v7 : Value} {k8 : Nat} {v8 : Value} {k9 : Nat} {v9 : Value} (h1 : Env.get G k1 = some v1) (h2 : Env.get G k2 = some v2) (h3 : Env.get G k3 = some v3) (h4 : Env.get G k4 = some v4) (h5 : Env.get G k5 = some v5) (h6 : Env.get G k6 = some v6) (h7 : Env.get G k7 = some v7) (h8 : Env.get G k8 = some v8) (h9 : Env.get G k9 = some v9) : SubL G [(k1, v1), (k2, v2), (k3, v3), (k4, v4), (k5, v5), (k6, v6), (k7, v7), (k8, v8), (k9, v9)] := ⟨h1, h2, h3, h4, h5, h6, h7, h8, h9, trivial⟩
theorem s10 {G : Env} {k1 : Nat} {v1 : Value} {k2 : Nat} {v2 : Value} {k3 : Nat} {v3 : Value} {k4 : Nat} {v4 : Value} {k5 : Nat} {v5 : Value} {k6 : Nat} {v6 : Value} {k7 : Nat} {v7 : Value} {k8 : Nat} {v8 : Value} {k9 : Nat} {v9 : Value} {k10 : Nat} {v10 : Value} (h1 : Env.get G k1 = some v1) (h2 : Env.get G k2 = some v2) (h3 : Env.get G k3 = some v3) (h4 : Env.get G k4 = some v4) (h5 : Env.get G k5 = some v5) (h6 : Env.get G k6 = some v6) (h7 : Env.get G k7 = some v7) (h8 : Env.get G k8 = some v8) (h9 : Env.get G k9 = some v9) (h10 : Env.get G k10 = some v10) : SubL G [(k1, v1), (k2, v2), (k3, v3), (k4, v4), (k5, v5), (k6, v6), (k7, v7), (k8, v8), (k9, v9), (k10, v10)] := ⟨h1, h2, h3, h4, h5, h6, h7, h8, h9, h10, trivial⟩
/-! ## The judgements -/
section
variable (P : Program) (n : Nat)
/-- One operation: whatever frame the list describes, it runs to a frame and a world that K describes. -/
def OW (ops : Array Oper) (Q : Exit → Act → World → Prop) (G : Env) (w : World) (o : Oper) (K : Env → World → Prop) : Prop :=
  ∀ a, Models n a G → ∀ K' : Act → World → Prop, (∀ G' w', K G' w' → ∀ a', Models n a' G' → K' a' w') →
    if Region.wanted o (yielded ops a.tmps) then o.wp P a w K' Q else K' (a.put o.dst undef) w
def WL (ops : Array Oper) (Q : Exit → Act → World → Prop) (G : Env) (w : World) (l : List Oper) : Prop :=
  ∀ a, Models n a G → wpList P ops Q l a w
def WC (Q : Exit → Act → World → Prop) (G : Env) (w : World) (c : Code) : Prop := ∀ a, Models n a G → c.wp P Q a w
def WX (Q : Exit → Act → World → Prop) (G : Env) (w : World) (e : Exit) : Prop := ∀ a, Models n a G → Q e a w
end
section
variable {P : Program} {n : Nat} {ops : Array Oper} {Q : Exit → Act → World → Prop} {G : Env} {w : World} {l : List Oper} {o : Oper}
theorem lC (h : OW P n ops Q G w o (fun G' w' => WL P n ops Q G' w' l)) : WL P n ops Q G w (o :: l) := by
  intro a ha
  have := h a ha (wpList P ops Q l) (fun G' w' hk a' ha' => hk a' ha')
  unfold wpList
  split
  · rename_i hw; rw [if_pos hw] at this; exact .inl this
  · rename_i hw; rw [if_neg hw] at this; exact this
theorem lN (h : WX n Q G w .normal) : WL P n ops Q G w [] := fun a ha => h a ha
/-! ## Code -/
theorem cG {id : Nat} (h : WL P n l.toArray Q G w l) : WC P n Q G w (.region id l.toArray false) :=
  fun a ha => wp_region_lit (h a ha)
theorem cS {x y : Code} (h : WC P n (Exit.then (y.wp P Q) Q) G w x) : WC P n Q G w (.seq x y) := fun a ha => wp_seq (h a ha)
theorem cB {id : Nat} {c : Code} (h : WC P n (Exit.inBlock id Q) G w c) : WC P n Q G w (.block id c) := fun a ha => wp_block (h a ha)
theorem cK (h : WX n Q G w .normal) : WC P n Q G w .skip := fun a ha => wp_skip (h a ha)
theorem c_exit {id : Nat} (h : WX n Q G w (.exit id)) : WC P n Q G w (.exit id) := fun a ha => wp_exit (h a ha)
theorem cR (h : WX n Q G w .ret) : WC P n Q G w .ret := fun a ha => wp_ret (h a ha)
theorem c_if {c : Operand} {x y : Code} (b : Bool) (hc : Env.ev G c = some (.bool b)) (ht : b = true → WC P n Q G w x) (hf : b = false → WC P n Q G w y) : WC P n Q G w (.cond c x y) :=
  fun a ha => wp_cond_split (ha.ev hc) (fun h => ht h a ha) (fun h => hf h a ha)
theorem cI {c : Operand} {x y : Code} (hc : Env.ev G c = some (.bool true)) (h : WC P n Q G w x) : WC P n Q G w (.cond c x y) :=
  fun a ha => wp_cond_true (ha.ev hc) (h a ha)
theorem c_ifF {c : Operand} {x y : Code} (hc : Env.ev G c = some (.bool false)) (h : WC P n Q G w y) : WC P n Q G w (.cond c x y) :=
  fun a ha => wp_cond_false (ha.ev hc) (h a ha)
theorem cP {c : Operand} {x y : Code} (p : Prop) [Decidable p] (hc : Env.ev G c = some (.bool (decide p))) (ht : p → WC P n Q G w x) (hf : ¬ p → WC P n Q G w y) : WC P n Q G w (.cond c x y) :=
  c_if _ hc (fun h => ht (of_decide_eq_true h)) (fun h => hf (of_decide_eq_false h))
theorem c_ifN {c : Operand} {x y : Code} (p : Prop) [Decidable p] (hc : Env.ev G c = some (.bool (!decide p))) (ht : ¬ p → WC P n Q G w x) (hf : p → WC P n Q G w y) : WC P n Q G w (.cond c x y) :=
  c_if _ hc (fun h => ht (by simpa using h)) (fun h => hf (by simpa using h))
theorem c_ifB {c : Operand} {x y : Code} (b : Bool) (hc : Env.ev G c = some (.bool (!b))) (ht : b = false → WC P n Q G w x) (hf : b = true → WC P n Q G w y) : WC P n Q G w (.cond c x y) :=
  c_if _ hc (fun h => ht (by simpa using h)) (fun h => hf (by simpa using h))
theorem l_split (t : Nat) (b : Bool) (hc : Env.get G t = some (.bool b)) (ht : b = true → WL P n ops Q ((t, .bool true) :: G) w l) (hf : b = false → WL P n ops Q ((t, .bool false) :: G) w l) : WL P n ops Q G w l := by
  intro a ha
  have hm : ∀ b', b = b' → Models n a ((t, .bool b') :: G) := by
    intro b' hb
    subst hb
    refine ⟨ha.size, ha.defers, fun k v hv => ?_⟩
    rw [Env.get_cons] at hv
    by_cases hk : t = k
    · subst hk; simp at hv; subst hv; exact ha.val t _ hc
    · rw [if_neg hk] at hv; exact ha.val k v hv
  cases hb : b with
  | true => exact ht hb a (hm _ hb)
  | false => exact hf hb a (hm _ hb)
theorem lS (t : Nat) (p : Prop) [Decidable p] (hc : Env.get G t = some (.bool (decide p))) (ht : p → WL P n ops Q ((t, .bool true) :: G) w l) (hf : ¬ p → WL P n ops Q ((t, .bool false) :: G) w l) : WL P n ops Q G w l :=
  l_split t _ hc (fun h => ht (of_decide_eq_true h)) (fun h => hf (of_decide_eq_false h))
theorem l_splitN (t : Nat) (p : Prop) [Decidable p] (hc : Env.get G t = some (.bool (!decide p))) (ht : ¬ p → WL P n ops Q ((t, .bool true) :: G) w l) (hf : p → WL P n ops Q ((t, .bool false) :: G) w l) : WL P n ops Q G w l :=
  l_split t _ hc (fun h => ht (by simpa using h)) (fun h => hf (by simpa using h))
theorem l_splitB (t : Nat) (b : Bool) (hc : Env.get G t = some (.bool (!b))) (ht : b = false → WL P n ops Q ((t, .bool true) :: G) w l) (hf : b = true → WL P n ops Q ((t, .bool false) :: G) w l) : WL P n ops Q G w l :=
  l_split t _ hc (fun h => ht (by simpa using h)) (fun h => hf (by simpa using h))
theorem q0 {id : Nat} {y : Code} (h : WL P n l.toArray (Exit.then (y.wp P Q) Q) G w l) : WC P n Q G w (.seq (.region id l.toArray false) y) := cS (cG h)
theorem q1 {y : Code} (h : WC P n Q G w y) : WL P n ops (Exit.then (y.wp P Q) Q) G w [] := lN h
theorem q2 {id : Nat} (h : WX n Q G w .normal) : WL P n ops (Exit.inBlock id Q) G w [] := lN h
/-! ## Ways out -/
theorem xS {y : Code} (h : WC P n Q G w y) : WX n (Exit.then (y.wp P Q) Q) G w .normal := h
theorem xE {K : Act → World → Prop} {i : Nat} (h : WX n Q G w (.exit i)) : WX n (Exit.then K Q) G w (.exit i) := h
theorem xR {K : Act → World → Prop} (h : WX n Q G w .ret) : WX n (Exit.then K Q) G w .ret := h
theorem x_blk {id : Nat} (h : WX n Q G w .normal) : WX n (Exit.inBlock id Q) G w .normal := h
theorem x_blkE {id : Nat} (h : WX n Q G w .normal) : WX n (Exit.inBlock id Q) G w (.exit id) := fun a ha => by simpa [Exit.inBlock] using h a ha
theorem x_blkO {id i : Nat} (hi : Nat.beq i id = false) (h : WX n Q G w (.exit i)) : WX n (Exit.inBlock id Q) G w (.exit i) := fun a ha => by
  have hne : i ≠ id := fun e => by subst e; simp at hi
  simpa [Exit.inBlock, hne] using h a ha
theorem xB {id : Nat} (h : WX n Q G w .ret) : WX n (Exit.inBlock id Q) G w .ret := h
/-! ## A loop -/
theorem c_loop {c : Code} {X : Type} (E : X → Env) (R : X → World → Prop) (mu : X → Nat) (x0 : X) (h0 : SubL G (E x0)) (hR : R x0 w)
    (round : ∀ x w, R x w → WC P n (Exit.then (fun a' w' => ∃ x', Models n a' (E x') ∧ R x' w' ∧ mu x' < mu x) Q) (E x) w c) : WC P n Q G w (.loop c) := by
  intro a ha b k cs
  have key : ∀ m x, mu x = m → ∀ a w, Models n a (E x) → R x w →
      ∃ e a' w', Q e a' w' ∧ Arrives P (lone (b.at a (.code c :: .inLoop c :: k)) cs w) b k cs e a' w' := by
    intro m
    induction m using Nat.strongRecOn with
    | _ m ih =>
      intro x hx a w hm hr
      obtain ⟨e, a₁, w₁, hq, harr⟩ := round x w hr a hm b (.inLoop c :: k) cs
      cases e with
      | normal =>
        obtain ⟨x', hm', hr', hlt⟩ := hq
        obtain ⟨e₂, a₂, w₂, hq₂, harr₂⟩ := ih (mu x') (hx ▸ hlt) x' rfl a₁ w₁ hm' hr'
        exact ⟨e₂, a₂, w₂, hq₂, .of_steps (Steps.trans harr (.one step_inLoop)) harr₂⟩
      | exit id => exact ⟨_, a₁, w₁, hq, .pass (x := .inLoop c) rfl (fun _ _ => .inl (by simp)) harr⟩
      | goto l => exact ⟨_, a₁, w₁, hq, .pass (x := .inLoop c) rfl (fun _ _ => .inl (by simp)) harr⟩
      | ret => exact ⟨_, a₁, w₁, hq, .pass (x := .inLoop c) rfl (fun _ _ => .inl (by simp)) harr⟩
      | panic ch => exact ⟨_, a₁, w₁, hq, .pass (x := .inLoop c) rfl (fun _ _ => .inl (by simp)) harr⟩
      | outgrown => exact ⟨_, a₁, w₁, hq, .pass (x := .inLoop c) rfl (fun _ _ => .inl (by simp)) harr⟩
  obtain ⟨e, a', w', hq, harr⟩ := key _ x0 rfl a w (ha.sub (Sub.of h0)) hR
  exact ⟨e, a', w', hq, .of_steps (.one step_loop) harr⟩
theorem x_round {X : Type} {E : X → Env} {R : X → World → Prop} {m : X → Nat} {b : Nat} (x' : X) (hs : SubL G (E x')) (hR : R x' w) (hm : m x' < b) :
    WX n (Exit.then (fun a' w' => ∃ x', Models n a' (E x') ∧ R x' w' ∧ m x' < b) Q) G w .normal :=
  fun _ ha => ⟨x', ha.sub (Sub.of hs), hR, hm⟩
theorem c_cut {x y : Code} {X : Type} (E : X → Env) (R : X → World → Prop)
    (h1 : WC P n (Exit.then (fun a' w' => ∃ x', Models n a' (E x') ∧ R x' w') Q) G w x) (h2 : ∀ x' w', R x' w' → WC P n Q (E x') w' y) : WC P n Q G w (.seq x y) :=
  fun a ha => wp_seq (wp_mono (h1 a ha) (fun e a' w' hq => by
    cases e <;> first | exact hq | (obtain ⟨x', hm, hr⟩ := hq; exact h2 x' w' hr a' hm)))
theorem x_cut {X : Type} {E : X → Env} {R : X → World → Prop} (x' : X) (hs : SubL G (E x')) (hR : R x' w) :
    WX n (Exit.then (fun a' w' => ∃ x', Models n a' (E x') ∧ R x' w') Q) G w .normal :=
  fun _ ha => ⟨x', ha.sub (Sub.of hs), hR⟩
theorem c_loop2 {c : Code} {X Y : Type} (E : X → Y → Env) (R : X → Y → World → Prop) (mu : X → Y → Nat) (x0 : X) (y0 : Y) (h0 : SubL G (E x0 y0)) (hR : R x0 y0 w)
    (round : ∀ x y w, R x y w → WC P n (Exit.then (fun a' w' => ∃ x' y', Models n a' (E x' y') ∧ R x' y' w' ∧ mu x' y' < mu x y) Q) (E x y) w c) : WC P n Q G w (.loop c) :=
  c_loop (X := X × Y) (fun q => E q.1 q.2) (fun q => R q.1 q.2) (fun q => mu q.1 q.2) (x0, y0) h0 hR
    (fun q w hr a ha => wp_mono (round q.1 q.2 w hr a ha) (fun e a' w' h => by
      cases e <;> first | exact h | (obtain ⟨x', y', h1, h2, h3⟩ := h; exact ⟨(x', y'), h1, h2, h3⟩)))
theorem xN {X Y : Type} {E : X → Y → Env} {R : X → Y → World → Prop} {m : X → Y → Nat} {b : Nat} (x' : X) (y' : Y) (hs : SubL G (E x' y')) (hR : R x' y' w) (hm : m x' y' < b) :
    WX n (Exit.then (fun a' w' => ∃ x' y', Models n a' (E x' y') ∧ R x' y' w' ∧ m x' y' < b) Q) G w .normal :=
  fun _ ha => ⟨x', y', ha.sub (Sub.of hs), hR, hm⟩
theorem c_cut2 {c d : Code} {X Y : Type} (E : X → Y → Env) (R : X → Y → World → Prop)
    (h1 : WC P n (Exit.then (fun a' w' => ∃ x' y', Models n a' (E x' y') ∧ R x' y' w') Q) G w c) (h2 : ∀ x y w', R x y w' → WC P n Q (E x y) w' d) : WC P n Q G w (.seq c d) :=
  fun a ha => wp_seq (wp_mono (h1 a ha) (fun e a' w' hq => by
    cases e <;> first | exact hq | (obtain ⟨x', y', hm, hr⟩ := hq; exact h2 x' y' w' hr a' hm)))
theorem x_cut2 {X Y : Type} {E : X → Y → Env} {R : X → Y → World → Prop} (x' : X) (y' : Y) (hs : SubL G (E x' y')) (hR : R x' y' w) :
    WX n (Exit.then (fun a' w' => ∃ x' y', Models n a' (E x' y') ∧ R x' y' w') Q) G w .normal :=
  fun _ ha => ⟨x', y', ha.sub (Sub.of hs), hR⟩
theorem c_loop3 {c : Code} {X Y Z : Type} (E : X → Y → Z → Env) (R : X → Y → Z → World → Prop) (mu : X → Y → Z → Nat) (x0 : X) (y0 : Y) (z0 : Z) (h0 : SubL G (E x0 y0 z0)) (hR : R x0 y0 z0 w)
    (round : ∀ x y z w, R x y z w → WC P n (Exit.then (fun a' w' => ∃ x' y' z', Models n a' (E x' y' z') ∧ R x' y' z' w' ∧ mu x' y' z' < mu x y z) Q) (E x y z) w c) : WC P n Q G w (.loop c) :=
  c_loop (X := X × Y × Z) (fun q => E q.1 q.2.1 q.2.2) (fun q => R q.1 q.2.1 q.2.2) (fun q => mu q.1 q.2.1 q.2.2) (x0, y0, z0) h0 hR
    (fun q w hr a ha => wp_mono (round q.1 q.2.1 q.2.2 w hr a ha) (fun e a' w' h => by
      cases e <;> first | exact h | (obtain ⟨x', y', z', h1, h2, h3⟩ := h; exact ⟨(x', y', z'), h1, h2, h3⟩)))
theorem x_round3 {X Y Z : Type} {E : X → Y → Z → Env} {R : X → Y → Z → World → Prop} {m : X → Y → Z → Nat} {b : Nat} (x' : X) (y' : Y) (z' : Z) (hs : SubL G (E x' y' z')) (hR : R x' y' z' w) (hm : m x' y' z' < b) :
    WX n (Exit.then (fun a' w' => ∃ x' y' z', Models n a' (E x' y' z') ∧ R x' y' z' w' ∧ m x' y' z' < b) Q) G w .normal :=
  fun _ ha => ⟨x', y', z', ha.sub (Sub.of hs), hR, hm⟩
theorem c_cut3 {c d : Code} {X Y Z : Type} (E : X → Y → Z → Env) (R : X → Y → Z → World → Prop)
    (h1 : WC P n (Exit.then (fun a' w' => ∃ x' y' z', Models n a' (E x' y' z') ∧ R x' y' z' w') Q) G w c) (h2 : ∀ x y z w', R x y z w' → WC P n Q (E x y z) w' d) : WC P n Q G w (.seq c d) :=
  fun a ha => wp_seq (wp_mono (h1 a ha) (fun e a' w' hq => by
    cases e <;> first | exact hq | (obtain ⟨x', y', z', hm, hr⟩ := hq; exact h2 x' y' z' w' hr a' hm)))
theorem x_cut3 {X Y Z : Type} {E : X → Y → Z → Env} {R : X → Y → Z → World → Prop} (x' : X) (y' : Y) (z' : Z) (hs : SubL G (E x' y' z')) (hR : R x' y' z' w) :
    WX n (Exit.then (fun a' w' => ∃ x' y' z', Models n a' (E x' y' z') ∧ R x' y' z' w') Q) G w .normal :=
  fun _ ha => ⟨x', y', z', ha.sub (Sub.of hs), hR⟩
theorem c_loop5 {c : Code} {X Y Z U V : Type} (E : X → Y → Z → U → V → Env) (R : X → Y → Z → U → V → World → Prop) (mu : X → Y → Z → U → V → Nat) (x0 : X) (y0 : Y) (z0 : Z) (u0 : U) (v0 : V) (h0 : SubL G (E x0 y0 z0 u0 v0)) (hR : R x0 y0 z0 u0 v0 w)
    (round : ∀ x y z u v w, R x y z u v w → WC P n (Exit.then (fun a' w' => ∃ x' y' z' u' v', Models n a' (E x' y' z' u' v') ∧ R x' y' z' u' v' w' ∧ mu x' y' z' u' v' < mu x y z u v) Q) (E x y z u v) w c) : WC P n Q G w (.loop c) :=
  c_loop (X := X × Y × Z × U × V) (fun q => E q.1 q.2.1 q.2.2.1 q.2.2.2.1 q.2.2.2.2) (fun q => R q.1 q.2.1 q.2.2.1 q.2.2.2.1 q.2.2.2.2) (fun q => mu q.1 q.2.1 q.2.2.1 q.2.2.2.1 q.2.2.2.2) (x0, y0, z0, u0, v0) h0 hR
    (fun q w hr a ha => wp_mono (round q.1 q.2.1 q.2.2.1 q.2.2.2.1 q.2.2.2.2 w hr a ha) (fun e a' w' h => by
      cases e <;> first | exact h | (obtain ⟨x', y', z', u', v', h1, h2, h3⟩ := h; exact ⟨(x', y', z', u', v'), h1, h2, h3⟩)))
theorem x_round5 {X Y Z U V : Type} {E : X → Y → Z → U → V → Env} {R : X → Y → Z → U → V → World → Prop} {m : X → Y → Z → U → V → Nat} {b : Nat} (x' : X) (y' : Y) (z' : Z) (u' : U) (v' : V) (hs : SubL G (E x' y' z' u' v')) (hR : R x' y' z' u' v' w) (hm : m x' y' z' u' v' < b) :
    WX n (Exit.then (fun a' w' => ∃ x' y' z' u' v', Models n a' (E x' y' z' u' v') ∧ R x' y' z' u' v' w' ∧ m x' y' z' u' v' < b) Q) G w .normal :=
  fun _ ha => ⟨x', y', z', u', v', ha.sub (Sub.of hs), hR, hm⟩
/-! ## A call's beginning and end -/
/-- It returns a value v, and v and the world behind are such. -/
def Ret (R : Value → World → Prop) : Ending → World → Prop
  | .returned v, w => R v w
  | _, _ => False
theorem Ret.mono {R R' : Value → World → Prop} (h : ∀ v w, R v w → R' v w) : ∀ e w, Ret R e w → Ret R' e w := fun e w hr => by
  cases e <;> first | exact h _ _ hr | exact hr.elim
def argEnv : Nat → List Value → Env
  | _, [] => []
  | k, v :: r => (k, v) :: argEnv (k + 1) r
theorem argEnv_get : ∀ (l : List Value) (j k : Nat) (v : Value), Env.get (argEnv j l) k = some v → j ≤ k ∧ l[k - j]? = some v
  | [], j, k, v, h => by simp [argEnv, Env.get] at h
  | u :: r, j, k, v, h => by
    rw [argEnv, Env.get_cons] at h
    by_cases hj : j = k
    · subst hj; simp at h; simp [h]
    · rw [if_neg hj] at h
      obtain ⟨h1, h2⟩ := argEnv_get r (j + 1) k v h
      refine ⟨by omega, ?_⟩
      rw [show k - j = (k - (j + 1)) + 1 by omega]
      simpa using h2
theorem cN {f : FuncId} {fn : Func} {c : Code} {args : Array Value} {R : Value → World → Prop} (hf : P.funcs[f]? = some fn) (hb : fn.body = some c) (hn : fn.ntmps = n) (hs : Nat.ble args.size n = true)
    (h : WC P n (bodyPost P fn (Ret R)) (argEnv 0 args.toList) w c) : Calls P f args w (Ret R) := by
  refine calls_of_wp hf hb (h _ ⟨?_, rfl, fun k v hv => ?_⟩)
  · have hs' : args.size ≤ n := by simpa using hs
    simp [hn]; omega
  · obtain ⟨_, h2⟩ := argEnv_get _ _ _ _ hv
    simp only [Nat.sub_zero, Array.getElem?_toList] at h2
    have hlt : k < args.size := (Array.getElem?_eq_some_iff.1 h2).1
    rw [Array.getElem?_append_left hlt]
    exact h2
theorem x1_ {fn : Func} {R : Value → World → Prop} {t : Nat} {v : Value} (hr : fn.results = #[.tmp t]) (hv : Env.get G t = some v) (h : R v w) : WX n (bodyPost P fn (Ret R)) G w .ret :=
  fun a ha => ⟨ha.defers, v, by simp [results, hr, Array.getD_eq_getD_getElem?, ha.val t v hv], h⟩
theorem x_ret0 {fn : Func} {R : Value → World → Prop} (hr : fn.results = #[]) (h : R (.tuple #[]) w) : WX n (bodyPost P fn (Ret R)) G w .ret :=
  fun a ha => ⟨ha.defers, _, by simp [results, hr], h⟩
theorem x_ret0n {fn : Func} {R : Value → World → Prop} (hr : fn.results = #[]) (h : R (.tuple #[]) w) : WX n (bodyPost P fn (Ret R)) G w .normal :=
  fun a ha => ⟨ha.defers, _, by simp [results, hr], h⟩
theorem x_ret2 {fn : Func} {R : Value → World → Prop} {t u : Nat} {v x : Value} (hr : fn.results = #[.tmp t, .tmp u]) (hv : Env.get G t = some v) (hx : Env.get G u = some x) (h : R (.tuple #[v, x]) w) : WX n (bodyPost P fn (Ret R)) G w .ret :=
  fun a ha => ⟨ha.defers, _, by simp [results, hr, Array.getD_eq_getD_getElem?, ha.val t v hv, ha.val u x hx], h⟩
/-- A function that has a body and is entered by a call. -/
structure FnOk (P : Program) (f : FuncId) : Prop where
  ok : ∃ fn c, P.funcs[f]? = some fn ∧ fn.name ≠ "runtime.NumGoroutine" ∧ fn.body = some c
theorem run_callFunc_ok {f : FuncId} (h : FnOk P f) (args : Array Value) (w : World) : (callFunc f args).run P w = .ok (.enter f args) w := by
  obtain ⟨fn, c, h1, h2, h3⟩ := h.ok
  simp [callFunc, h1, h2, h3]
end
theorem i3 {α β γ : Sort _} {p : α → β → γ → Prop} : ∀ (a : α) (b : β) (c : γ), p a b c → p a b c := fun _ _ _ h => h
theorem i4 {α β γ δ : Sort _} {p : α → β → γ → δ → Prop} : ∀ (a : α) (b : β) (c : γ) (d : δ), p a b c d → p a b c d := fun _ _ _ _ h => h
theorem gE {α : Type _} {l : List α} {i : Nat} (h : i < l.length) : l[i]? = some l[i] := List.getElem?_eq_getElem h
theorem gM {α : Type _} {l : List α} {n : Nat} (h : n < l.length) : l[n] ∈ l := List.getElem_mem h
theorem lT {a b c : Nat} (h : a < b) (k : b ≤ c) : a < c := Nat.lt_of_lt_of_le h k
theorem lR (n : Nat) : n ≤ n := Nat.le_refl n
theorem lQ {a b : Nat} (h : a = b) : a ≤ b := Nat.le_of_eq h
theorem dT {p : Prop} [Decidable p] (h : p) : decide p = true := decide_eq_true h
theorem dF {p : Prop} [Decidable p] (h : ¬ p) : decide p = false := decide_eq_false h
open Go Go.RowKit
/-! ## Worlds -/
abbrev Ext (w w' : World) : Prop := Below w.heap.size w w'
theorem ext_refl (w : World) : Ext w w := Below.refl _ _
theorem Ext.then {a b c : World} (h : Ext a b) (k : Ext b c) : Ext a c := Below.trans h (Below.mono k h.size)
theorem ext_drew (w : World) : Ext w w.drew := (Below.refl _ _).drew
theorem ext_alloc (w : World) (o : Obj) : Ext w (w.alloc o) := (Below.refl _ _).alloc (lR _) o
/-- Blocks that may be written: all are there. -/
def Low (M : Nat → Prop) (w : World) : Prop := ∀ b, M b → b < w.heap.size
theorem Low.Y {M : Nat → Prop} {w w' : World} (h : Low M w) (e : Ext w w') : Low M w' := fun b hb => lT (h b hb) e.size
def Add (M : Nat → Prop) (b : Nat) : Nat → Prop := fun x => M x ∨ x = b
theorem Low.add {M : Nat → Prop} {w : World} (h : Low M w) {b : Nat} (hb : b < w.heap.size) : Low (Add M b) w := fun x hx => by
  rcases hx with hx | rfl
  · exact h x hx
  · exact hb
def NoM : Nat → Prop := fun _ => False
theorem low_noM (w : World) : Low NoM w := fun _ h => h.elim
/-- Cells that lie in a block that nobody writes. -/
structure At (M : Nat → Prop) (w : World) (b off : Nat) (cs : List Value) : Prop where
  lt : b < w.heap.size
  nM : ¬ M b
  cell : ∀ j v, cs[j]? = some v → w.cell? ⟨b, off + j, none⟩ = some v
theorem At.Y {M : Nat → Prop} {w w' : World} {b off : Nat} {cs : List Value} (h : At M w b off cs) (e : Ext w w') : At M w' b off cs :=
  ⟨lT h.lt e.size, h.nM, fun j v hv => (e.cell (p := ⟨b, off + j, none⟩) h.lt).trans (h.cell j v hv)⟩
/-- Other blocks may have been written. -/
def Upd (M : Nat → Prop) (w w' : World) : Prop := w.heap.size ≤ w'.heap.size ∧ ∀ b, b < w.heap.size → ¬ M b → w'.heap[b]? = w.heap[b]?
theorem Ext.upd {w w' : World} (h : Ext w w') (M : Nat → Prop) : Upd M w w' := ⟨h.size, fun b hb _ => h.block b hb⟩
theorem At.upd {M : Nat → Prop} {w w' : World} {b off : Nat} {cs : List Value} (h : At M w b off cs) (e : Upd M w w') : At M w' b off cs :=
  ⟨lT h.lt e.1, h.nM, fun j v hv => (World.cell?_of_block (w := w) (a := ⟨b, off + j, none⟩) (e.2 b h.lt h.nM)).trans (h.cell j v hv)⟩
theorem At.wk {M M' : Nat → Prop} {w : World} {b off : Nat} {cs : List Value} (h : At M w b off cs) (e : ∀ x, x < w.heap.size → M' x → M x) : At M' w b off cs :=
  ⟨h.lt, fun hb => h.nM (e b h.lt hb), h.cell⟩
/-- A block of the call's own, all of it. -/
structure Box (w : World) (b : Nat) (T : Nat) (cs : List Value) : Prop where
  heap : w.heap[b]? = some (.cells cs.toArray T (0, 0))
theorem Box.lt {w : World} {b T : Nat} {cs : List Value} (h : Box w b T cs) : b < w.heap.size := (Array.getElem?_eq_some_iff.1 h.heap).1
theorem Box.cell {w : World} {b T : Nat} {cs : List Value} (h : Box w b T cs) (j : Nat) (v : Value) (hv : cs[j]? = some v) : w.cell? ⟨b, 0 + j, none⟩ = some v := by
  rw [Nat.zero_add, cell_of_row w b j _ _ _ h.heap]; simpa using hv
theorem Box.Y {w w' : World} {b T : Nat} {cs : List Value} (h : Box w b T cs) (e : Ext w w') : Box w' b T cs := ⟨(e.block b h.lt).trans h.heap⟩
theorem Box.at {M : Nat → Prop} {w : World} {b T : Nat} {cs : List Value} (h : Box w b T cs) (hb : ¬ M b) : At M w b 0 cs := ⟨h.lt, hb, fun j v hv => h.cell j v hv⟩
/-! ## The program's types, as a short table -/
inductive TD where
  | int (k : IntKind) | bool | str | sl (e : Nat) | ptr (e : Nat) | st (fs : List (Nat × Nat)) | fn | mp (k e : Nat)
structure TI where
  d : TD
  size : Nat
  bytes : Nat
  zero : Value
def FsOk (P : Program) (f : Array Field) : Nat → List (Nat × Nat) → Prop
  | _, [] => True
  | j, (o, e) :: r => (∃ x i, f[j]? = some x ∧ x.offset = o ∧ x.type = e ∧ P.info? e = some i ∧ Nat.beq i.size 0 = false) ∧ FsOk P f (j + 1) r
theorem FsOk.get {P : Program} {f : Array Field} : ∀ {l : List (Nat × Nat)} {k : Nat}, FsOk P f k l → ∀ {j o e : Nat}, l[j]? = some (o, e) →
    ∃ x i, f[k + j]? = some x ∧ x.offset = o ∧ x.type = e ∧ P.info? e = some i ∧ i.size ≠ 0
  | [], _, _, j, o, e, h => by simp at h
  | (o', e') :: r, k, hf, 0, o, e, h => by
    simp at h
    obtain ⟨rfl, rfl⟩ := h
    obtain ⟨x, i, h1, h2, h3, h4, h5⟩ := hf.1
    exact ⟨x, i, h1, h2, h3, h4, fun h0 => by rw [h0] at h5; simp at h5⟩
  | (o', e') :: r, k, hf, j + 1, o, e, h => by
    have := FsOk.get hf.2 (j := j) (by simpa using h)
    rwa [show k + (j + 1) = k + 1 + j by omega]
def TD.Ok (P : Program) (t : Nat) : TD → Prop
  | .int k => P.underlying t = some (.int k)
  | .bool => P.underlying t = some .bool
  | .str => P.underlying t = some .string
  | .sl e => P.underlying t = some (.slice e)
  | .ptr e => P.underlying t = some (.pointer e)
  | .st fs => ∃ f, P.underlying t = some (.struct f) ∧ f.size = fs.length ∧ FsOk P f 0 fs
  | .fn => ∃ a b c, P.underlying t = some (.func a b c)
  | .mp k e => P.underlying t = some (.map k e)
def TD.agg : TD → Bool
  | .st _ => true
  | _ => false
structure TIOk (P : Program) (t : Nat) (x : TI) : Prop where
  info : ∃ i, P.info? t = some i ∧ i.size = x.size ∧ i.bytes = x.bytes ∧ i.zero = some x.zero
  d : x.d.Ok P t
abbrev Tab := List (Nat × TI)
def Tab.get : Tab → Nat → Option TI
  | [], _ => none
  | (k, v) :: r, n => bif Nat.beq k n then some v else Tab.get r n
def TabOk (P : Program) (T : Tab) : Prop := ∀ t x, T.get t = some x → TIOk P t x
theorem tab_nil {P : Program} : TabOk P [] := fun t x h => by simp [Tab.get] at h
theorem tab_cons {P : Program} {T : Tab} {k : Nat} {v : TI} (h : TIOk P k v) (hr : TabOk P T) : TabOk P ((k, v) :: T) := fun t x hx => by
  simp only [Tab.get, cond_eq_ite] at hx
  split at hx
  · rename_i hb
    have := Nat.eq_of_beq_eq_true hb
    subst this
    simp at hx
    subst hx
    exact h
  · exact hr t x hx
theorem run_isAgg {P : Program} {T : Tab} (hT : TabOk P T) {t : Nat} {x : TI} (h : T.get t = some x) (w : World) : (isAgg t).run P w = .ok x.d.agg w := by
  have hd := (hT t x h).d
  unfold isAgg
  cases hx : x.d <;> rw [hx] at hd <;> simp only [TD.Ok] at hd
  case st fs => obtain ⟨f, hf, _⟩ := hd; simp [run_underlying hf, TD.agg]
  case fn => obtain ⟨a, b, c, hf⟩ := hd; simp [run_underlying hf, TD.agg]
  all_goals simp [run_underlying hd, TD.agg]
theorem run_sizeOf {P : Program} {T : Tab} (hT : TabOk P T) {t : Nat} {x : TI} (h : T.get t = some x) (w : World) : (Go.sizeOf t).run P w = .ok x.size w := by
  obtain ⟨i, h1, h2, _⟩ := (hT t x h).info
  simp [Go.sizeOf, typeInfo, h1, h2]
theorem run_zeroValue' {P : Program} {T : Tab} (hT : TabOk P T) {t : Nat} {x : TI} (h : T.get t = some x) (w : World) : (zeroValue t).run P w = .ok x.zero w := by
  obtain ⟨i, h1, _, _, h4⟩ := (hT t x h).info
  simp [zeroValue, typeInfo, h1, h4]
/-! ## Guards -/
def gd (ops : Array Oper) (G : Env) (o : Oper) : Option Bool :=
  match o.guard with
  | none => some true
  | some (j, want) => match (ops[j]?).bind (·.dst) with
    | some t => match Env.get G t with
      | some (.bool b) => some (b == want)
      | some (.tuple _) => some false
      | _ => none
    | none => none
theorem wanted_of_gd {ops : Array Oper} {G : Env} {o : Oper} {n : Nat} {a : Act} (hm : Models n a G) {b : Bool} (h : gd ops G o = some b) : Region.wanted o (yielded ops a.tmps) = b := by
  unfold gd at h
  unfold Region.wanted
  split at h
  · rename_i hg; simp at h; simp [hg, h]
  · rename_i j want hg
    split at h
    · rename_i t ht
      split at h
      · rename_i c hc
        simp at h
        simp [hg, yielded, ht, hm.val t _ hc, h]
      · rename_i hc
        simp at h
        simp [hg, yielded, ht, hm.val t _ hc, h]
      · cases h
    · cases h
section
variable {P : Program} {n : Nat} {ops : Array Oper} {Q : Exit → Act → World → Prop} {G : Env} {w : World} {K : Env → World → Prop}
theorem o_val {o : Oper} {d : Nat} {v : Value} {w' : World} (hg : gd ops G o = some true) (hd : o.dst = some d) (hdn : Nat.blt d n = true)
    (hrun : ∀ a, Models n a G → (execOp a.eval o).run P w = .ok (.value v) w') (h : K ((d, v) :: G) w') : OW P n ops Q G w o K := by
  intro a ha K' hK
  rw [if_pos (wanted_of_gd ha hg)]
  simp only [Oper.wp, hrun a ha, Oper.upon, hd]
  exact hK _ _ h _ (ha.put hdn v)
theorem o_unit {o : Oper} {w' : World} (hg : gd ops G o = some true) (hd : o.dst = none)
    (hrun : ∀ a, Models n a G → (execOp a.eval o).run P w = .ok .skip w') (h : K G w') : OW P n ops Q G w o K := by
  intro a ha K' hK
  rw [if_pos (wanted_of_gd ha hg)]
  simp only [Oper.wp, hrun a ha, Oper.upon, hd]
  exact hK _ _ h _ (ha.put_none _)
theorem o_skip {op : Op} {d ty : Nat} {pos : String} {af : Array Go.Edge} {g : Option (Nat × Bool)} (hg : gd ops G ⟨some d, op, ty, pos, af, g⟩ = some false) (hdn : Nat.blt d n = true) (h : K ((d, undef) :: G) w) : OW P n ops Q G w ⟨some d, op, ty, pos, af, g⟩ K := by
  intro a ha K' hK
  rw [if_neg (by rw [wanted_of_gd ha hg]; simp)]
  exact hK _ _ h _ (ha.put hdn undef)
end
/-! ## Values computed from values -/
def cmpI (op : BinOp) (x y : Int) : Option Value :=
  match op with
  | .eql => some (.bool (decide (x = y)))
  | .neq => some (.bool (!decide (x = y)))
  | .lss => some (.bool (decide (x < y)))
  | .leq => some (.bool (decide (x ≤ y)))
  | .gtr => some (.bool (decide (y < x)))
  | .geq => some (.bool (decide (y ≤ x)))
  | _ => none
/-- Names in order, byte by byte. -/
def sLt (a b : ByteArray) : Bool := Op.bytesLess a.data.toList b.data.toList
def cmpS (op : BinOp) (x y : ByteArray) : Option Value :=
  match op with
  | .eql => some (.bool (decide (x = y)))
  | .neq => some (.bool (!decide (x = y)))
  | .lss => some (.bool (sLt x y))
  | .leq => some (.bool (sLt x y || decide (x = y)))
  | .gtr => some (.bool (!(sLt x y || decide (x = y))))
  | .geq => some (.bool (!sLt x y))
  | _ => none
def binS (op : BinOp) : Value → Value → Option Value
  | .int .i64 x, .int .i64 y => cmpI op x y
  | .int .u8 x, .int .u8 y => cmpI op x y
  | .int .u64 x, .int .u64 y => cmpI op x y
  | .string x, .string y => cmpS op x y
  | _, _ => none
theorem intCmp_run {op : BinOp} {x y : Int} {v : Value} (h : cmpI op x y = some v) (P : Program) (w : World) : (Op.intCmp op x y).run P w = .ok v w := by
  cases op <;> simp [cmpI] at h <;> subst h <;> simp [Op.intCmp] <;> rfl
theorem bytes_beq (x y : ByteArray) : (x.toList == y.toList) = decide (x = y) := by
  rw [ByteArray.toList_eq, ByteArray.toList_eq, Bool.eq_iff_iff]
  simp only [beq_iff_eq, decide_eq_true_eq]
  constructor
  · intro h
    cases x; cases y
    simp only [ByteArray.mk.injEq]
    exact Array.toList_inj.1 h
  · intro h; rw [h]
theorem stringOp_run {op : BinOp} {x y : ByteArray} {v : Value} (h : cmpS op x y = some v) (P : Program) (w : World) : (Op.stringOp op x y).run P w = .ok v w := by
  have hb := bytes_beq x y
  have e1 : x.toList = x.data.toList := ByteArray.toList_eq x
  have e2 : y.toList = y.data.toList := ByteArray.toList_eq y
  cases op <;> simp only [cmpS] at h <;> (try cases h) <;> simp only [Op.stringOp, hb, sLt, Sem.run_pure] <;> simp only [e1, e2]
theorem binOp_run {op : BinOp} {x y : Value} {v : Value} (h : binS op x y = some v) (t : TypeId) (ox oy : Operand) (P : Program) (w : World) :
    (do eqGuard op t ox oy x y; binOp op t x y : Sem Value).run P w = .ok v w := by
  unfold binS at h
  split at h
  · have hr := intCmp_run h P w
    cases op <;> simp [cmpI] at h <;> simpa [eqGuard, binOp] using hr
  · have hr := intCmp_run h P w
    cases op <;> simp [cmpI] at h <;> simpa [eqGuard, binOp] using hr
  · have hr := intCmp_run h P w
    cases op <;> simp [cmpI] at h <;> simpa [eqGuard, binOp] using hr
  · have hr := stringOp_run h P w
    cases op <;> simp only [cmpS] at h <;> (try cases h) <;> simpa [eqGuard, binOp] using hr
  · cases h
def minS : Value → Value → Option Value
  | .int .i64 x, .int .i64 y => some (.int .i64 (if y < x then y else x))
  | _, _ => none
def pureS (T : Tab) (G : Env) : Op → Option Value
  | .move x => Env.ev G x
  | .assign x => Env.ev G x
  | .pick c a b => match Env.ev G c with
    | some (.bool true) => Env.ev G a
    | some (.bool false) => Env.ev G b
    | _ => none
  | .binOp op _ x y _ => match Env.ev G x with
    | some u => match Env.ev G y with
      | some v => binS op u v
      | none => none
    | none => none
  | .unOp .not _ x => match Env.ev G x with
    | some (.bool b) => some (.bool (!b))
    | _ => none
  | .extract x i => match Env.ev G x with
    | some (.tuple vs) => vs[i]?
    | _ => none
  | .fieldAddr t x i => match Env.ev G x with
    | some (.pointer (some ⟨b, off, none⟩)) => match T.get t with
      | some ⟨.st fs, _, _, _⟩ => match fs[i]? with
        | some (o, _) => some (.pointer (some ⟨b, off + o, none⟩))
        | none => none
      | _ => none
    | _ => none
  | .makeFunc fn first captured => match Env.evs G first.toList with
    | some fs => match Env.evs G captured.toList with
      | some cs => some (.func fn fs.toArray cs.toArray)
      | none => none
    | none => none
  | .nilCheck x => match Env.ev G x with
    | some (.pointer (some a)) => some (.pointer (some a))
    | _ => none
  | .call ⟨.builtin .len, args, tys⟩ => match args.toList, tys.toList with
    | [x], [t] => match Env.ev G x with
      | some (.slice _ len _) => match T.get t with
        | some ⟨.sl _, _, _, _⟩ => some (.int .i64 (len : Int))
        | _ => none
      | some (.string s) => match T.get t with
        | some ⟨.str, _, _, _⟩ => some (.int .i64 (s.size : Int))
        | _ => none
      | _ => none
    | _, _ => none
  | .call ⟨.builtin .min, args, _⟩ => match args.toList with
    | [x, y] => match Env.ev G x with
      | some u => match Env.ev G y with
        | some v => minS u v
        | none => none
      | none => none
    | _ => none
  | _ => none
theorem addr_add (b off k : Nat) : (⟨b, off, none⟩ : Addr).add k = ⟨b, off + k, none⟩ := by
  unfold Addr.add
  split
  · rename_i h; simp [h]
  · rfl
theorem array_of_toList {α : Type} {a : Array α} {l : List α} (h : a.toList = l) : a = l.toArray := by rw [← h]
theorem pureS_run {P : Program} {T : Tab} (hT : TabOk P T) {n : Nat} {a : Act} {G : Env} (hm : Models n a G) {o : Oper} {v : Value} (h : pureS T G o.op = some v) (w : World) :
    (execOp a.eval o).run P w = .ok (.value v) w := by
  obtain ⟨dst, op, type, pos, after, guard⟩ := o
  simp only at h
  unfold pureS at h
  split at h
  case h_1 x => simp [execOp, hm.ev h]
  case h_2 x => simp [execOp, hm.ev h]
  case h_3 c x y =>
    split at h
    · rename_i hc; simp [execOp, hm.ev hc, hm.ev h, asBool]
    · rename_i hc; simp [execOp, hm.ev hc, hm.ev h, asBool]
    · cases h
  case h_4 bop t x y t' =>
    split at h
    · rename_i u hu
      split at h
      · rename_i u' hu'
        have := binOp_run h t x y P w
        simp only [execOp, hm.ev hu, hm.ev hu']
        simp only [Sem.run_bind] at this ⊢
        rw [this]
        rfl
      · cases h
    · cases h
  case h_5 t x =>
    split at h
    · rename_i b hb; simp at h; subst h; simp [execOp, hm.ev hb, Op.unary]
    · cases h
  case h_6 x i =>
    split at h
    · rename_i vs hv; simp [execOp, hm.ev hv, Instr.extract, h]
    · cases h
  case h_7 t x i =>
    split at h
    · rename_i b off hx
      split at h
      · rename_i fs s b z ht
        split at h
        · rename_i o e he
          simp at h
          subst h
          obtain ⟨f, hf, _, hfs⟩ := (hT t _ ht).d
          obtain ⟨y, i', h1, h2, h3, h4, h5⟩ := hfs.get he
          simp only [Nat.zero_add] at h1
          simp [execOp, hm.ev hx, Instr.fieldAt, run_underlying hf, h1, Instr.sureAddr, fieldPlace, Go.sizeOf, typeInfo, h3, h4, h5, h2, addr_add]
        · cases h
      · cases h
    · cases h
  case h_8 fn first captured =>
    split at h
    · rename_i fs hfs
      split at h
      · rename_i cs hcs
        simp at h
        subst h
        have e1 : first.map a.eval = fs.toArray := array_of_toList (by simp [hm.evs hfs])
        have e2 : captured.map a.eval = cs.toArray := array_of_toList (by simp [hm.evs hcs])
        simp [execOp, Instr.makeFunc, e1, e2]
      · cases h
    · cases h
  case h_9 x =>
    split at h
    · rename_i b hb; simp at h; subst h; simp [execOp, hm.ev hb]
    · cases h
  case h_10 args tys =>
    split at h
    · rename_i x t hargs htys
      have ha : args = #[x] := array_of_toList hargs
      have ht : tys = #[t] := array_of_toList htys
      subst ha; subst ht
      split at h
      · rename_i ad len cap hx
        split at h
        · rename_i e s b z hty
          simp at h
          subst h
          have hd := (hT t _ hty).d
          simp only [TD.Ok] at hd
          simp [execOp, resolve, invoke, builtin, hm.ev hx, Builtin.len_, run_underlying hd, goInt]
        · cases h
      · rename_i s hx
        split at h
        · rename_i s' b z hty
          simp at h
          subst h
          have hd := (hT t _ hty).d
          simp only [TD.Ok] at hd
          simp [execOp, resolve, invoke, builtin, hm.ev hx, Builtin.len_, run_underlying hd, goInt]
        · cases h
      · cases h
    · cases h
  case h_11 args tys =>
    split at h
    · rename_i x y hargs
      have ha : args = #[x, y] := array_of_toList hargs
      subst ha
      split at h
      · rename_i u hu
        split at h
        · rename_i u' hu'
          unfold minS at h
          split at h
          · simp at h; subst h
            simp [execOp, resolve, invoke, builtin, hm.ev hu, hm.ev hu', Builtin.min_, Builtin.min2]
          · cases h
        · cases h
      · cases h
    · cases h
  case h_12 => cases h
section
variable {P : Program} {T : Tab} {n : Nat} {ops : Array Oper} {Q : Exit → Act → World → Prop} {G : Env} {w : World} {K : Env → World → Prop}
  {d ty : Nat} {pos : String} {af : Array Go.Edge} {g : Option (Nat × Bool)}
theorem o_p {op : Op} {v : Value} (hT : TabOk P T) (hv : pureS T G op = some v) (hg : gd ops G ⟨some d, op, ty, pos, af, g⟩ = some true) (hdn : Nat.blt d n = true)
    (h : K ((d, v) :: G) w) : OW P n ops Q G w ⟨some d, op, ty, pos, af, g⟩ K :=
  o_val hg rfl hdn (fun _ ha => pureS_run hT ha hv w) h
/-- One operation that computes a value from values, or that isn't wanted: its slot, and the value. -/
def stepP (T : Tab) (n : Nat) (ops : Array Oper) (G : Env) (o : Oper) : Option (Nat × Value) :=
  match o.dst with
  | none => none
  | some d => bif Nat.blt d n then
      match gd ops G o with
      | some true => match pureS T G o.op with
        | some v => some (d, v)
        | none => none
      | some false => some (d, undef)
      | none => none
    else none
/-- So many of them. -/
def runP (T : Tab) (n : Nat) (ops : Array Oper) : Nat → Env → List Oper → Option (Env × List Oper)
  | 0, G, l => some (G, l)
  | _ + 1, _, [] => none
  | k + 1, G, o :: r => match stepP T n ops G o with
    | some (d, v) => runP T n ops k ((d, v) :: G) r
    | none => none
theorem lP (k : Nat) {G' : Env} {l l' : List Oper} (hT : TabOk P T) (hr : runP T n ops k G l = some (G', l')) (h : WL P n ops Q G' w l') : WL P n ops Q G w l := by
  induction k generalizing G l with
  | zero => simp [runP] at hr; obtain ⟨rfl, rfl⟩ := hr; exact h
  | succ k ih =>
    cases l with
    | nil => simp [runP] at hr
    | cons o r =>
      simp only [runP] at hr
      split at hr
      · rename_i d v hs
        obtain ⟨od, op, ty, pos, af, g⟩ := o
        unfold stepP at hs
        simp only at hs
        split at hs
        · cases hs
        · rename_i d' 
          cases hb : Nat.blt d' n with
          | false => rw [hb] at hs; cases hs
          | true =>
            rw [hb] at hs
            simp only [cond_true] at hs
            split at hs
            · rename_i hg
              split at hs
              · rename_i v' hv
                simp only [Option.some.injEq, Prod.mk.injEq] at hs
                obtain ⟨rfl, rfl⟩ := hs
                exact lC (o_p hT hv hg hb (ih hr))
              · cases hs
            · rename_i hg
              simp only [Option.some.injEq, Prod.mk.injEq] at hs
              obtain ⟨rfl, rfl⟩ := hs
              exact lC (o_skip hg hb (ih hr))
            · cases hs
      · cases hr
/-- Sums, differences, products. -/
def arI (op : BinOp) (x y : Int) : Option Int :=
  match op with
  | .add => some (x + y)
  | .sub => some (x - y)
  | .mul => some (x * y)
  | _ => none
theorem o_ar {bop : BinOp} {t t' : TypeId} {x y : Operand} {k : IntKind} {p q r z : Int} (hx : Env.ev G x = some (.int k p)) (hy : Env.ev G y = some (.int k q)) (hr : arI bop p q = some r) (hz : k.wrap r = z)
    (hg : gd ops G ⟨some d, .binOp bop t x y t', ty, pos, af, g⟩ = some true) (hdn : Nat.blt d n = true) (h : K ((d, .int k z) :: G) w) : OW P n ops Q G w ⟨some d, .binOp bop t x y t', ty, pos, af, g⟩ K := by
  refine o_val hg rfl hdn (fun a ha => ?_) h
  cases bop <;> simp [arI] at hr <;> subst hr <;> subst hz <;> simp [execOp, ha.ev hx, ha.ev hy, eqGuard, binOp, Op.intArith]
theorem oK {f : FuncId} {args : Array Operand} {tys : Array TypeId} {vs : List Value} {R : Value → World → Prop} (hf : FnOk P f) (hv : Env.evs G args.toList = some vs)
    (hg : gd ops G ⟨some d, .call ⟨.value (.func f), args, tys⟩, ty, pos, af, g⟩ = some true) (hdn : Nat.blt d n = true)
    (hc : Calls P f vs.toArray w (Ret R)) (h : ∀ v w', R v w' → K ((d, v) :: G) w') : OW P n ops Q G w ⟨some d, .call ⟨.value (.func f), args, tys⟩, ty, pos, af, g⟩ K := by
  intro a ha K' hK
  rw [if_pos (wanted_of_gd ha hg)]
  have e : args.map a.eval = vs.toArray := array_of_toList (by simp [ha.evs hv])
  have hrun : (execOp a.eval ⟨some d, .call ⟨.value (.func f), args, tys⟩, ty, pos, af, g⟩).run P w = .ok (.enter f vs.toArray) w := by
    simp [execOp, resolve, e, Deferred.ofValue, Act.eval, invoke, run_callFunc_ok hf]
  simp only [Oper.wp, hrun, Oper.upon]
  refine hc.mono fun en w' hr => ?_
  cases en with
  | returned v => exact hK _ _ (h v w' hr) _ (ha.put hdn v)
  | panicked c => exact hr.elim
  | outgrown => exact hr.elim
theorem o_dyn {f : FuncId} {x : Operand} {caps : List Value} {args : Array Operand} {tys : Array TypeId} {vs : List Value} {R : Value → World → Prop} (hx : Env.ev G x = some (.func (.func f) #[] caps.toArray)) (hf : FnOk P f) (hv : Env.evs G args.toList = some vs)
    (hg : gd ops G ⟨some d, .call ⟨.value x, args, tys⟩, ty, pos, af, g⟩ = some true) (hdn : Nat.blt d n = true)
    (hc : Calls P f (vs ++ caps).toArray w (Ret R)) (h : ∀ v w', R v w' → K ((d, v) :: G) w') : OW P n ops Q G w ⟨some d, .call ⟨.value x, args, tys⟩, ty, pos, af, g⟩ K := by
  intro a ha K' hK
  rw [if_pos (wanted_of_gd ha hg)]
  have e : args.map a.eval = vs.toArray := array_of_toList (by simp [ha.evs hv])
  have hrun : (execOp a.eval ⟨some d, .call ⟨.value x, args, tys⟩, ty, pos, af, g⟩).run P w = .ok (.enter f (vs ++ caps).toArray) w := by
    simp [execOp, resolve, e, ha.ev hx, Deferred.ofValue, invoke, run_callFunc_ok hf]
  simp only [Oper.wp, hrun, Oper.upon]
  refine hc.mono fun en w' hr => ?_
  cases en with
  | returned v => exact hK _ _ (h v w' hr) _ (ha.put hdn v)
  | panicked c => exact hr.elim
  | outgrown => exact hr.elim
theorem oD {t : TypeId} {x : Operand} {v : Value} {b o : Nat} {ti : TI} (hT : TabOk P T) (hc : w.cell? ⟨b, o, none⟩ = some v) (hx : Env.ev G x = some (.pointer (some ⟨b, o, none⟩))) (ht : T.get t = some ti) (hta : ti.d.agg = false)
    (hg : gd ops G ⟨some d, .load t x, ty, pos, af, g⟩ = some true) (hdn : Nat.blt d n = true) (h : K ((d, v) :: G) w) : OW P n ops Q G w ⟨some d, .load t x, ty, pos, af, g⟩ K := by
  refine o_val hg rfl hdn (fun a ha => ?_) h
  simp [execOp, ha.ev hx, Instr.loadAt, Instr.sureAddr, loadVar, run_isAgg hT ht, hta, hc]
theorem oL {t : TypeId} {x : Operand} {cs : List Value} {b o : Nat} {ti : TI} (hT : TabOk P T) (hc : ∀ j v, cs[j]? = some v → w.cell? ⟨b, o + j, none⟩ = some v) (hx : Env.ev G x = some (.pointer (some ⟨b, o, none⟩))) (ht : T.get t = some ti) (hta : ti.d.agg = true)
    (hl : cs.length = ti.size)
    (hg : gd ops G ⟨some d, .load t x, ty, pos, af, g⟩ = some true) (hdn : Nat.blt d n = true) (h : K ((d, .agg cs.toArray) :: G) w) : OW P n ops Q G w ⟨some d, .load t x, ty, pos, af, g⟩ K := by
  refine o_val hg rfl hdn (fun a ha => ?_) h
  have hlc : (loadCells ⟨b, o, none⟩ ti.size).run P w = .ok cs.toArray w := by
    rw [← hl]
    exact run_loadCells_list (P := P) w ⟨b, o, none⟩ cs (fun j v hv => by rw [addr_add]; exact hc j v hv)
  simp [execOp, ha.ev hx, Instr.loadAt, Instr.sureAddr, loadVar, run_isAgg hT ht, hta, run_sizeOf hT ht, hlc]
theorem o_ix {t : TypeId} {x i : Operand} {b off len cap e : Nat} {k : IntKind} {z : Int} {j : Nat} {ti te : TI} (hT : TabOk P T) (hx : Env.ev G x = some (.slice (some ⟨b, off, none⟩) len cap)) (hi : Env.ev G i = some (.int k z))
    (ht : T.get t = some ti) (htd : ti.d = .sl e) (hte : T.get e = some te) (hj : z = (j : Int)) (hlt : j < len)
    (hg : gd ops G ⟨some d, .indexAddr t x i, ty, pos, af, g⟩ = some true) (hdn : Nat.blt d n = true) (h : K ((d, .pointer (some ⟨b, off + j * te.size, none⟩)) :: G) w) : OW P n ops Q G w ⟨some d, .indexAddr t x i, ty, pos, af, g⟩ K := by
  refine o_val hg rfl hdn (fun a ha => ?_) h
  have hd := (hT t _ ht).d
  rw [htd] at hd
  simp only [TD.Ok] at hd
  subst hj
  have h1 : (0 : Int) ≤ (j : Int) ∧ (j : Int) < (len : Int) := by omega
  simp [execOp, ha.ev hx, ha.ev hi, Instr.indexAt, asIntOf, run_underlying hd, h1, run_sizeOf hT hte, addr_add]
  intro hge
  omega
theorem run_si {t : TypeId} {x i : Operand} {s : ByteArray} {k : IntKind} {z : Int} {j : Nat} {c : UInt8} {ti : TI} (hT : TabOk P T) {a : Act} (ha : Models n a G) (hx : Env.ev G x = some (.string s)) (hi : Env.ev G i = some (.int k z))
    (ht : T.get t = some ti) (htd : ti.d = .str) (hj : z = (j : Int)) (hc : s.data[j]? = some c) (w : World) : (execOp a.eval ⟨some d, .index t x i, ty, pos, af, g⟩).run P w = .ok (.value (.int .u8 c.toNat)) w := by
  have hd := (hT t _ ht).d
  rw [htd] at hd
  simp only [TD.Ok] at hd
  subst hj
  have hc' : s[j]? = some c := by
    rw [Array.getElem?_eq_some_iff] at hc
    obtain ⟨hlt, rfl⟩ := hc
    exact getElem?_pos s j hlt
  simp [execOp, ha.ev hx, ha.ev hi, Instr.index, asIntOf, run_underlying hd, hc']
theorem o_si {t : TypeId} {x i : Operand} {s : ByteArray} {k : IntKind} {z : Int} {j : Nat} {c : UInt8} {ti : TI} (hT : TabOk P T) (hx : Env.ev G x = some (.string s)) (hi : Env.ev G i = some (.int k z))
    (ht : T.get t = some ti) (htd : ti.d = .str) (hj : z = (j : Int)) (hc : s.data[j]? = some c)
    (hg : gd ops G ⟨some d, .index t x i, ty, pos, af, g⟩ = some true) (hdn : Nat.blt d n = true) (h : K ((d, .int .u8 c.toNat) :: G) w) : OW P n ops Q G w ⟨some d, .index t x i, ty, pos, af, g⟩ K := by
  exact o_val hg rfl hdn (fun a ha => run_si hT ha hx hi ht htd hj hc w) h
theorem o_box {e : TypeId} {x : Operand} {v : Value} (hv : Env.ev G x = some v)
    (hg : gd ops G ⟨some d, .box e x, ty, pos, af, g⟩ = some true) (hdn : Nat.blt d n = true)
    (h : ∀ b w', b = w.heap.size → Ext w w' → Box w' b e v.cells.toList → K ((d, .pointer (some ⟨b, 0, none⟩)) :: G) w') : OW P n ops Q G w ⟨some d, .box e x, ty, pos, af, g⟩ K := by
  refine o_val (w' := w.alloc (.cells v.cells e)) hg rfl hdn (fun a ha => ?_) (h w.heap.size _ rfl (ext_alloc _ _) ⟨?_⟩)
  · simp [execOp, ha.ev hv, Instr.box, newVar, newRow]
  · simpa using heap_alloc_new w (.cells v.cells e)
theorem o_new {e : TypeId} {ti : TI} (hT : TabOk P T) (he : T.get e = some ti)
    (hg : gd ops G ⟨some d, .alloc e, ty, pos, af, g⟩ = some true) (hdn : Nat.blt d n = true)
    (h : ∀ b w', b = w.heap.size → Ext w w' → Box w' b e ti.zero.cells.toList → K ((d, .pointer (some ⟨b, 0, none⟩)) :: G) w') : OW P n ops Q G w ⟨some d, .alloc e, ty, pos, af, g⟩ K := by
  refine o_val (w' := w.alloc (.cells ti.zero.cells e)) hg rfl hdn (fun a _ => ?_) (h w.heap.size _ rfl (ext_alloc _ _) ⟨?_⟩)
  · simp [execOp, Instr.alloc, run_zeroValue' hT he, newVar, newRow]
  · simpa using heap_alloc_new w (.cells ti.zero.cells e)
end
section
variable {P : Program} {n : Nat} {ops : Array Oper} {Q : Exit → Act → World → Prop} {G : Env} {w : World} {K : Env → World → Prop} {d ty : Nat} {pos : String} {af : Array Go.Edge} {g : Option (Nat × Bool)}
theorem o_ai {bop : BinOp} {t t' : TypeId} {x y : Operand} {p q r : Int} (hx : Env.ev G x = some (.int .i64 p)) (hy : Env.ev G y = some (.int .i64 q)) (hr : arI bop p q = some r) (hz : -9223372036854775808 ≤ r ∧ r ≤ 9223372036854775807)
    (hg : gd ops G ⟨some d, .binOp bop t x y t', ty, pos, af, g⟩ = some true) (hdn : Nat.blt d n = true) (h : K ((d, .int .i64 r) :: G) w) : OW P n ops Q G w ⟨some d, .binOp bop t x y t', ty, pos, af, g⟩ K := o_ar hx hy hr (IntWalk.i64_in _ hz) hg hdn h
end
theorem Ext.z {w w' : World} {k : Nat} (e : Ext w w') (h : k ≤ w.heap.size) : k ≤ w'.heap.size := Nat.le_trans h e.size
theorem Ext.bl {w w' w0 : World} {k : Nat} (e : Ext w w') (h : Below k w0 w) (hB : k ≤ w.heap.size) : Below k w0 w' := h.trans (Below.mono e hB)
open Go Go.RowKit
/-- Data that values read as: so many cells, in blocks that nobody writes. -/
class Rep (α : Type) where
  sz : Nat
  R : (Nat → Prop) → World → Value → α → Prop
  pos : 0 < sz
  size : ∀ {M w v x}, R M w v x → v.cells.size = sz
  one : ∀ {M w v x}, R M w v x → ∀ u ∈ v.cells.toList, u.oneCell' = true
  upd : ∀ {M w w' v x}, R M w v x → Upd M w w' → R M w' v x
  wk : ∀ {M M' w v x}, R M w v x → (∀ b, b < w.heap.size → M' b → M b) → R M' w v x
section
variable {α : Type} [Rep α] {M : Nat → Prop} {w w' : World} {v : Value} {x : α}
theorem Rep.Y (h : Rep.R M w v x) (e : Ext w w') : Rep.R M w' v x := Rep.upd h (e.upd M)
end
/-- From world to world: only what is in M is written; what is new in M' is new. -/
structure Stp (B : Nat) (M M' : Nat → Prop) (w w' : World) : Prop where
  upd : Upd M w w'
  wk : ∀ b, b < w.heap.size → M' b → M b
  sub : ∀ b, M b → M' b
  low : Low M' w'
  below : Below B w w'
theorem Rep.sp {α : Type} [Rep α] {B : Nat} {M M' : Nat → Prop} {w w' : World} {v : Value} {x : α} (h : Rep.R M w v x) (s : Stp B M M' w w') : Rep.R M' w' v x :=
  Rep.upd (Rep.wk h s.wk) ⟨s.upd.1, fun b hb hn => s.upd.2 b hb (fun hm => hn (s.sub b hm))⟩
theorem At.sp {B : Nat} {M M' : Nat → Prop} {w w' : World} {b off : Nat} {cs : List Value} (h : At M w b off cs) (s : Stp B M M' w w') : At M' w' b off cs :=
  At.upd (At.wk h s.wk) ⟨s.upd.1, fun b hb hn => s.upd.2 b hb (fun hm => hn (s.sub b hm))⟩
theorem Stp.Y {B : Nat} {M : Nat → Prop} {w w' : World} (h : Ext w w') (hl : Low M w) (hB : B ≤ w.heap.size) : Stp B M M w w' :=
  ⟨h.upd M, fun _ _ h => h, fun _ h => h, hl.Y h, Below.mono h hB⟩
theorem Stp.then {B : Nat} {M M' M'' : Nat → Prop} {w w' w'' : World} (h : Stp B M M' w w') (k : Stp B M' M'' w' w'') : Stp B M M'' w w'' :=
  ⟨⟨Nat.le_trans h.upd.1 k.upd.1, fun b hb hn => (k.upd.2 b (lT hb h.upd.1) (fun hm => hn (h.wk b hb hm))).trans (h.upd.2 b hb hn)⟩,
   fun b hb hm => h.wk b hb (k.wk b (lT hb h.upd.1) hm), fun b hm => k.sub b (h.sub b hm), k.low, h.below.trans k.below⟩
theorem Stp.refl {B : Nat} {M : Nat → Prop} {w : World} (hl : Low M w) : Stp B M M w w :=
  ⟨⟨lR _, fun _ _ _ => rfl⟩, fun _ _ h => h, fun _ h => h, hl, Below.refl _ _⟩
theorem Stp.add {B : Nat} {M : Nat → Prop} {w w' : World} (h : Ext w w') (hl : Low M w) (hB : B ≤ w.heap.size) {b : Nat} (hb : w.heap.size ≤ b) (hb' : b < w'.heap.size) : Stp B M (Add M b) w w' :=
  ⟨h.upd M, fun x hx hm => hm.resolve_right (fun e => by omega), fun _ h => .inl h, (hl.Y h).add hb', Below.mono h hB⟩
theorem nO {M : Nat → Prop} {w : World} {b : Nat} (h : Low M w) (hb : b = w.heap.size) : ¬ M b := fun hm => by have := h b hm; omega
/-! ## Scalars -/
def I64 (n : Int) : Prop := -9223372036854775808 ≤ n ∧ n ≤ 9223372036854775807
instance : Rep Int where
  sz := 1
  R := fun _ _ v n => v = .int .i64 n ∧ I64 n
  pos := by decide
  size := by rintro M w v x ⟨rfl, _⟩; rfl
  one := by rintro M w v x ⟨rfl, _⟩ u hu; simp [Value.cells] at hu; subst hu; rfl
  upd := fun h _ => h
  wk := fun h _ => h
instance : Rep Bool where
  sz := 1
  R := fun _ _ v b => v = .bool b
  pos := by decide
  size := by rintro M w v x rfl; rfl
  one := by rintro M w v x rfl u hu; simp [Value.cells] at hu; subst hu; rfl
  upd := fun h _ => h
  wk := fun h _ => h
instance : Rep ByteArray where
  sz := 1
  R := fun _ _ v s => v = .string s ∧ s.size < 140737488355328
  pos := by decide
  size := by rintro M w v x ⟨rfl, _⟩; rfl
  one := by rintro M w v x ⟨rfl, _⟩ u hu; simp [Value.cells] at hu; subst hu; rfl
  upd := fun h _ => h
  wk := fun h _ => h
/-! ## Slices that are read -/
/-- Element i lies behind the slice's beginning, and reads as the i-th thing. -/
def Elems {α : Type} [Rep α] (M : Nat → Prop) (w : World) (a : Option Addr) (l : List α) : Prop :=
  l = [] ∨ ∃ b off, a = some ⟨b, off, none⟩ ∧ ∀ (i : Nat) (x : α), l[i]? = some x → ∃ u, Rep.R M w u x ∧ At M w b (off + i * Rep.sz α) u.cells.toList
def Sl {α : Type} [Rep α] (M : Nat → Prop) (w : World) (v : Value) (l : List α) : Prop :=
  ∃ a cap, v = .slice a l.length cap ∧ l.length < 140737488355328 ∧ l.length ≤ cap ∧ Elems M w a l
section
variable {α : Type} [Rep α] {M M' : Nat → Prop} {w w' : World} {v : Value} {l : List α}
theorem Elems.upd {a : Option Addr} (h : Elems M w a l) (e : Upd M w w') : Elems M w' a l := by
  rcases h with h | ⟨b, off, ha, hx⟩
  · exact .inl h
  · exact .inr ⟨b, off, ha, fun i x hi => let ⟨u, h1, h2⟩ := hx i x hi; ⟨u, Rep.upd h1 e, h2.upd e⟩⟩
theorem Elems.wk {a : Option Addr} (h : Elems M w a l) (e : ∀ b, b < w.heap.size → M' b → M b) : Elems M' w a l := by
  rcases h with h | ⟨b, off, ha, hx⟩
  · exact .inl h
  · exact .inr ⟨b, off, ha, fun i x hi => let ⟨u, h1, h2⟩ := hx i x hi; ⟨u, Rep.wk h1 e, h2.wk e⟩⟩
theorem Sl.upd (h : Sl M w v l) (e : Upd M w w') : Sl M w' v l := let ⟨a, c, h1, h2, h3, h4⟩ := h; ⟨a, c, h1, h2, h3, h4.upd e⟩
theorem Sl.wk (h : Sl M w v l) (e : ∀ b, b < w.heap.size → M' b → M b) : Sl M' w v l := let ⟨a, c, h1, h2, h3, h4⟩ := h; ⟨a, c, h1, h2, h3, h4.wk e⟩
theorem Sl.Y (h : Sl M w v l) (e : Ext w w') : Sl M w' v l := h.upd (e.upd M)
theorem Sl.sp {B : Nat} (h : Sl M w v l) (s : Stp B M M' w w') : Sl M' w' v l :=
  Sl.upd (Sl.wk h s.wk) ⟨s.upd.1, fun b hb hn => s.upd.2 b hb (fun hm => hn (s.sub b hm))⟩
theorem Sl.lt (h : Sl M w v l) : l.length < 140737488355328 := let ⟨_, _, _, h2, _, _⟩ := h; h2
theorem sl_nil : Sl M w (.slice none 0 0) ([] : List α) := ⟨none, 0, rfl, by simp, by simp, .inl rfl⟩
theorem Sl.cells (h : Sl M w v l) : v.cells = #[v] := by obtain ⟨a, c, rfl, _⟩ := h; rfl
end
instance {α : Type} [Rep α] : Rep (List α) where
  sz := 1
  R := Sl
  pos := by decide
  size := by rintro M w v x ⟨a, c, rfl, _⟩; rfl
  one := by rintro M w v x ⟨a, c, rfl, _⟩ u hu; simp [Value.cells] at hu; subst hu; rfl
  upd := Sl.upd
  wk := Sl.wk
section
variable {P : Program} {T : Tab} {n : Nat} {ops : Array Oper} {Q : Exit → Act → World → Prop} {G : Env} {w : World} {K : Env → World → Prop}
  {d ty : Nat} {pos : String} {af : Array Go.Edge} {g : Option (Nat × Bool)}
variable {α : Type} [Rep α] {M : Nat → Prop} {v : Value} {l : List α}
theorem o_len {t : TypeId} {x : Operand} {ti : TI} {e : Nat} (hT : TabOk P T) (hs : Sl M w v l) (hx : Env.ev G x = some v) (ht : T.get t = some ti) (htd : ti.d = .sl e)
    (hg : gd ops G ⟨some d, .call ⟨.builtin .len, #[x], #[t]⟩, ty, pos, af, g⟩ = some true) (hdn : Nat.blt d n = true) (h : K ((d, .int .i64 (l.length : Int)) :: G) w) :
    OW P n ops Q G w ⟨some d, .call ⟨.builtin .len, #[x], #[t]⟩, ty, pos, af, g⟩ K := by
  obtain ⟨a, c, rfl, _⟩ := hs
  obtain ⟨td, _, _, _⟩ := ti
  simp only at htd
  subst htd
  exact o_p hT (by simp [pureS, hx, ht]) hg hdn h
theorem o_ixS {t : TypeId} {x i : Operand} {k : IntKind} {z : Int} {j : Nat} {y : α} {ti te : TI} {e : Nat} (hT : TabOk P T) (hs : Sl M w v l) (hy : l[j]? = some y) (hx : Env.ev G x = some v) (hi : Env.ev G i = some (.int k z)) (hj : z = (j : Int))
    (ht : T.get t = some ti) (htd : ti.d = .sl e) (hte : T.get e = some te) (hsz : te.size = Rep.sz α)
    (hg : gd ops G ⟨some d, .indexAddr t x i, ty, pos, af, g⟩ = some true) (hdn : Nat.blt d n = true)
    (h : ∀ b o u, Rep.R M w u y → At M w b o u.cells.toList → K ((d, .pointer (some ⟨b, o, none⟩)) :: G) w) : OW P n ops Q G w ⟨some d, .indexAddr t x i, ty, pos, af, g⟩ K := by
  obtain ⟨a, c, rfl, _, _, he⟩ := hs
  have hlt : j < l.length := (List.getElem?_eq_some_iff.1 hy).1
  rcases he with he | ⟨b, off, ha, hel⟩
  · subst he; simp at hlt
  · subst ha
    obtain ⟨u, h1, h2⟩ := hel j y hy
    refine o_ix hT hx hi ht htd hte hj hlt hg hdn (h b _ u h1 ?_)
    rw [hsz]; exact h2
end
/-! ## Slices of the call's own -/
/-- Values, one by one, read as data. -/
def Rs {α : Type} [Rep α] (M : Nat → Prop) (w : World) : List Value → List α → Prop
  | [], [] => True
  | u :: us, x :: xs => Rep.R M w u x ∧ Rs M w us xs
  | _, _ => False
def flat (us : List Value) : List Value := us.flatMap (·.cells.toList)
section
variable {α : Type} [Rep α] {M M' : Nat → Prop} {w w' : World}
theorem Rs.length : ∀ {us : List Value} {l : List α}, Rs M w us l → us.length = l.length
  | [], [], _ => rfl
  | _ :: _, _ :: _, h => by simp [Rs.length h.2]
  | [], _ :: _, h => h.elim
  | _ :: _, [], h => h.elim
theorem Rs.upd : ∀ {us : List Value} {l : List α}, Rs M w us l → Upd M w w' → Rs M w' us l
  | [], [], _, _ => trivial
  | _ :: _, _ :: _, h, e => ⟨Rep.upd h.1 e, Rs.upd h.2 e⟩
  | [], _ :: _, h, _ => h.elim
  | _ :: _, [], h, _ => h.elim
theorem Rs.wk : ∀ {us : List Value} {l : List α}, Rs M w us l → (∀ b, b < w.heap.size → M' b → M b) → Rs M' w us l
  | [], [], _, _ => trivial
  | _ :: _, _ :: _, h, e => ⟨Rep.wk h.1 e, Rs.wk h.2 e⟩
  | [], _ :: _, h, _ => h.elim
  | _ :: _, [], h, _ => h.elim
theorem Rs.append : ∀ {us vs : List Value} {l k : List α}, Rs M w us l → Rs M w vs k → Rs M w (us ++ vs) (l ++ k)
  | [], _, [], _, _, h => h
  | _ :: _, _, _ :: _, _, h, h' => ⟨h.1, Rs.append h.2 h'⟩
  | [], _, _ :: _, _, h, _ => h.elim
  | _ :: _, _, [], _, h, _ => h.elim
theorem Rs.get : ∀ {us : List Value} {l : List α}, Rs M w us l → ∀ {i : Nat} {x : α}, l[i]? = some x → ∃ u, us[i]? = some u ∧ Rep.R M w u x
  | [], [], _, i, x, h => by simp at h
  | u :: _, _ :: _, h, 0, x, hx => by simp at hx; subst hx; exact ⟨u, rfl, h.1⟩
  | _ :: _, _ :: _, h, i + 1, x, hx => by simpa using Rs.get h.2 (i := i) (by simpa using hx)
  | [], _ :: _, h, _, _, _ => h.elim
  | _ :: _, [], h, _, _, _ => h.elim
theorem Rs.flat_length : ∀ {us : List Value} {l : List α}, Rs M w us l → (flat us).length = l.length * Rep.sz α
  | [], [], _ => by simp [flat]
  | u :: us, x :: xs, h => by
    have h1 := Rep.size h.1
    have h2 := Rs.flat_length h.2
    simp only [flat, List.flatMap_cons, List.length_append, List.length_cons, Nat.add_mul, Nat.one_mul] at *
    simp only [Array.length_toList]
    omega
  | [], _ :: _, h => h.elim
  | _ :: _, [], h => h.elim
theorem Rs.flat_one : ∀ {us : List Value} {l : List α}, Rs M w us l → ∀ u ∈ flat us, u.oneCell' = true
  | [], [], _, u, h => by simp [flat] at h
  | y :: us, x :: xs, h, u, hu => by
    simp only [flat, List.flatMap_cons, List.mem_append] at hu
    rcases hu with hu | hu
    · exact Rep.one h.1 u hu
    · exact Rs.flat_one h.2 u hu
  | [], _ :: _, h, _, _ => h.elim
  | _ :: _, [], h, _, _ => h.elim
theorem Rs.flat_get : ∀ {us : List Value} {l : List α}, Rs M w us l → ∀ {i : Nat} {u : Value}, us[i]? = some u → ∀ (j : Nat) (c : Value), u.cells.toList[j]? = some c → (flat us)[i * Rep.sz α + j]? = some c
  | [], [], _, i, u, h, _, _, _ => by simp at h
  | y :: us, x :: xs, h, 0, u, hu, j, c, hc => by
    simp at hu; subst hu
    have hj := (List.getElem?_eq_some_iff.1 hc).1
    simp only [flat, List.flatMap_cons, Nat.zero_mul, Nat.zero_add]
    rw [List.getElem?_append_left hj]; exact hc
  | y :: us, x :: xs, h, i + 1, u, hu, j, c, hc => by
    have h1 := Rep.size h.1
    have h2 := Rs.flat_get h.2 (i := i) (u := u) (by simpa using hu) j c hc
    simp only [flat, List.flatMap_cons]
    rw [List.getElem?_append_right (by simp [h1, Nat.add_mul]; omega)]
    simp only [Array.length_toList, h1]
    rw [show (i + 1) * Rep.sz α + j - Rep.sz α = i * Rep.sz α + j by rw [Nat.add_mul]; omega]
    exact h2
  | [], _ :: _, h, _, _, _, _, _, _ => h.elim
  | _ :: _, [], h, _, _, _, _, _, _ => h.elim
end
/-- A slice of the call's own (its block from B on, and in M), that holds these things. -/
structure OwnSl {α : Type} [Rep α] (e B : Nat) (M : Nat → Prop) (w : World) (v : Value) (l : List α) : Prop where
  row : ∃ us, w.ownsRow B e (Rep.sz α) v l.length (flat us) ∧ Rs M w us l
  inM : ∀ b, v.ownBlock = some b → M b
section
variable {α : Type} [Rep α] {e B : Nat} {M M' : Nat → Prop} {w w' : World} {v : Value} {l : List α}
theorem own_nil : OwnSl e B M w (.slice none 0 0) ([] : List α) := ⟨⟨[], by simpa [flat] using World.ownsRow_nil w B e (Rep.sz α), trivial⟩, by simp [Value.ownBlock]⟩
theorem OwnSl.val (h : OwnSl e B M w v l) : ∃ a cap, v = .slice a l.length cap ∧ l.length ≤ cap := by
  obtain ⟨us, hr, _⟩ := h.row
  rcases hr.2 with ⟨rfl, h0⟩ | ⟨g, cap, cur, rfl, _, _, hc, _⟩
  · exact ⟨none, 0, by rw [h0], by omega⟩
  · exact ⟨_, cap, rfl, hc⟩
theorem OwnSl.sp (h : OwnSl e B M w v l) (s : Stp B M M' w w') (hb : ∀ b, v.ownBlock = some b → w'.heap[b]? = w.heap[b]?) : OwnSl e B M' w' v l := by
  obtain ⟨us, hr, hs⟩ := h.row
  refine ⟨⟨us, ⟨hr.1, ?_⟩, Rs.upd (Rs.wk hs s.wk) ⟨s.upd.1, fun b hb hn => s.upd.2 b hb (fun hm => hn (s.sub b hm))⟩⟩, fun b hv => s.sub b (h.inM b hv)⟩
  rcases hr.2 with hn | ⟨g, cap, cur, rfl, hB, hg, rest⟩
  · exact .inl hn
  · exact .inr ⟨g, cap, cur, rfl, hB, (hb g rfl).trans hg, rest⟩
theorem OwnSl.lt (h : OwnSl e B M w v l) : ∀ b, v.ownBlock = some b → B ≤ b ∧ b < w.heap.size := by
  obtain ⟨us, hr, _⟩ := h.row
  exact hr.lt
theorem OwnSl.Y (h : OwnSl e B M w v l) (hl : Low M w) (hB : B ≤ w.heap.size) (x : Ext w w') : OwnSl e B M w' v l :=
  h.sp (Stp.Y x hl hB) (fun b hb => x.block b (h.lt b hb).2)
theorem OwnSl.sl (h : OwnSl e B M w v l) (hl : l.length < 140737488355328) {M0 : Nat → Prop} (h0 : ∀ b, M0 b → b < B) (hsub : ∀ b, M0 b → M b) : Sl M0 w v l := by
  obtain ⟨us, hr, hs⟩ := h.row
  have hlt := hr.lt
  rcases hr.2 with ⟨rfl, hn⟩ | ⟨g, cap, cur, rfl, hB, hg, hc, _, _, htake⟩
  · have : l = [] := List.eq_nil_of_length_eq_zero hn
    subst this
    exact sl_nil
  · refine ⟨_, cap, rfl, hl, hc, .inr ⟨g, 0, rfl, fun i x hx => ?_⟩⟩
    obtain ⟨u, hu, hR⟩ := hs.get hx
    refine ⟨u, Rep.wk hR (fun b _ hb => hsub b hb), (hlt g rfl).2, fun hm => by have := h0 g hm; omega, fun j c hc => ?_⟩
    have := hr.cells (g := g) rfl (i * Rep.sz α + j) c (hs.flat_get hu j c hc)
    rw [addr_add] at this
    rwa [show 0 + i * Rep.sz α + j = 0 + (i * Rep.sz α + j) by omega]
end
theorem Stp.z {B k : Nat} {M M' : Nat → Prop} {w w' : World} (s : Stp B M M' w w') (h : k ≤ w.heap.size) : k ≤ w'.heap.size := Nat.le_trans h s.upd.1
theorem Stp.sb {B : Nat} {M M' M0 : Nat → Prop} {w w' : World} (s : Stp B M M' w w') (h : ∀ b, M0 b → M b) : ∀ b, M0 b → M' b := fun b hb => s.sub b (h b hb)
open Go Go.RowKit
/-! ## Small laws -/
theorem flat_append (us vs : List Value) : flat (us ++ vs) = flat us ++ flat vs := by simp [flat]
theorem zipIdx_of : ∀ (ps : List (Nat × Value)) (k : Nat), ps.map (·.1) = List.range' k ps.length → ((ps.map (·.2)).zipIdx k).map (fun x => (x.2, x.1)) = ps
  | [], _, _ => rfl
  | (i, v) :: r, k, h => by
    simp only [List.map_cons, List.length_cons, List.range'_succ, List.cons.injEq] at h
    obtain ⟨rfl, h2⟩ := h
    simp only [List.map_cons, List.zipIdx_cons, zipIdx_of r (i + 1) h2]
theorem run_buildSlice_all {P : Program} {T : Tab} (hT : TabOk P T) {t e : TypeId} {ti te : TI} (ht : T.get t = some ti) (htd : ti.d = .sl e) (hte : T.get e = some te) (hsz : 0 < te.size)
    (ps : Array (Nat × Value)) (hp : ps.toList.map (·.1) = List.range' 0 ps.toList.length) (hs : ∀ v ∈ ps.toList.map (·.2), v.cells.size = te.size) (hk : ps.toList.length * te.size ≤ 16777216) (w : World) :
    (Instr.buildSlice t ps.toList.length ps).run P w = .ok (.slice (some ⟨w.heap.size, 0, none⟩) ps.toList.length ps.toList.length) (w.alloc (.cells (flat (ps.toList.map (·.2))).toArray e)) := by
  have hd := (hT t ti ht).d
  rw [htd] at hd
  simp only [TD.Ok] at hd
  have hk' : ¬ (16777216 < ps.toList.length * te.size) := by omega
  simp only [Instr.buildSlice, Sem.run_bind, run_underlying hd, Result.andThen_ok, run_sizeOf hT hte]
  rw [if_neg hk']
  by_cases h0 : ps.toList.length * te.size = 0
  · have := Great.fill_whole hsz (ps.toList.map (·.2)) ((Array.range (ps.toList.length * te.size)).map ((#[] : Array Value)[· % (#[] : Array Value).size]!)) hs (by simp)
    rw [zipIdx_of _ _ hp] at this
    simp only [if_pos h0, Sem.run_bind, Sem.run_pure, Result.andThen_ok]
    rw [this]
    simp [newRow, flat]
  · have := Great.fill_whole hsz (ps.toList.map (·.2)) ((Array.range (ps.toList.length * te.size)).map (te.zero.cells[· % te.zero.cells.size]!)) hs (by simp)
    rw [zipIdx_of _ _ hp] at this
    simp only [if_neg h0, Sem.run_bind, Sem.run_pure, Result.andThen_ok, run_zeroValue' hT hte]
    rw [this]
    simp [newRow, flat]
theorem flat_replicate {z : Value} (hz : z.cells = #[z]) : ∀ k, flat (List.replicate k z) = List.replicate k z
  | 0 => rfl
  | k + 1 => by
    have := flat_replicate hz k
    simp only [flat] at this
    simp [List.replicate_succ, flat, hz, this]
theorem Rs.sizes {α : Type} [Rep α] {M : Nat → Prop} {w : World} : ∀ {us : List Value} {l : List α}, Rs M w us l → ∀ v ∈ us, v.cells.size = Rep.sz α
  | [], [], _, v, hv => by cases hv
  | _ :: _, _ :: _, h, v, hv => by
    rcases List.mem_cons.1 hv with rfl | hv
    · exact Rep.size h.1
    · exact Rs.sizes h.2 v hv
  | [], _ :: _, h, _, _ => h.elim
  | _ :: _, [], h, _, _ => h.elim
section
variable {P : Program} {T : Tab} {n : Nat} {ops : Array Oper} {Q : Exit → Act → World → Prop} {G : Env} {w : World} {K : Env → World → Prop}
  {d ty : Nat} {pos : String} {af : Array Go.Edge} {g : Option (Nat × Bool)}
theorem o_bs {t e k : Nat} {ps : Array (Nat × Operand)} {vs : List Value} {ti te : TI} (hT : TabOk P T) (hv : Env.evs G (ps.toList.map (·.2)) = some vs) (hp : ps.toList.map (·.1) = List.range' 0 k) (hlen : ps.toList.length = k)
    (ht : T.get t = some ti) (htd : ti.d = .sl e) (hte : T.get e = some te) (hsz : Nat.blt 0 te.size = true) (hs : ∀ v ∈ vs, v.cells.size = te.size) (hk : Nat.ble (k * te.size) 16777216 = true)
    (hg : gd ops G ⟨some d, .buildSlice t k ps, ty, pos, af, g⟩ = some true) (hdn : Nat.blt d n = true)
    (h : ∀ b w', b = w.heap.size → Ext w w' → Box w' b e (flat vs) → K ((d, .slice (some ⟨b, 0, none⟩) k k) :: G) w') : OW P n ops Q G w ⟨some d, .buildSlice t k ps, ty, pos, af, g⟩ K := by
  subst hlen
  refine o_val (w' := w.alloc (.cells (flat vs).toArray e)) hg rfl hdn (fun a ha => ?_) (h w.heap.size _ rfl (ext_alloc _ _) ⟨heap_alloc_new w _⟩)
  have e2 : (ps.map fun (i, x) => (i, a.eval x)).toList.map (·.2) = vs := by
    rw [← ha.evs hv]; simp [List.map_map, Function.comp_def]
  have e1 : (ps.map fun (i, x) => (i, a.eval x)).toList.map (·.1) = List.range' 0 (ps.map fun (i, x) => (i, a.eval x)).toList.length := by
    simp only [Array.toList_map, List.map_map, List.length_map]
    rw [← hp]; rfl
  have hr := run_buildSlice_all hT ht htd hte (Nat.le_of_ble_eq_true hsz) (ps.map fun (i, x) => (i, a.eval x)) e1 (by rw [e2]; exact hs) (by simpa using Nat.le_of_ble_eq_true hk) w
  rw [e2] at hr
  simp only [Array.toList_map, List.length_map, Array.length_toList] at hr
  simp [execOp, hr]
theorem o_mk {t e : Nat} {x y : Operand} {ti te : TI} {kd : IntKind} {k B : Nat} {M : Nat → Prop} {α : Type} [Rep α] (z : α) (hT : TabOk P T) (hx : Env.ev G x = some (.int kd (k : Int))) (hy : Env.ev G y = some (.int kd (k : Int)))
    (ht : T.get t = some ti) (htd : ti.d = .sl e) (hte : T.get e = some te) (hsz : te.size = 1) (hrs : Rep.sz α = 1) (hzc : te.zero.cells = #[te.zero]) (hz : ∀ M w, Rep.R M w te.zero z) (hk : te.bytes * k ≤ 140737488355328) (hk2 : k < 140737488355328)
    (hl : Low M w) (hB : B ≤ w.heap.size)
    (hg : gd ops G ⟨some d, .makeSlice t x y, ty, pos, af, g⟩ = some true) (hdn : Nat.blt d n = true)
    (h : ∀ b w', b = w.heap.size → Ext w w' → Stp B M (Add M b) w w' → OwnSl e B (Add M b) w' (.slice (some ⟨b, 0, none⟩) k k) (List.replicate k z) → K ((d, .slice (some ⟨b, 0, none⟩) k k) :: G) w') : OW P n ops Q G w ⟨some d, .makeSlice t x y, ty, pos, af, g⟩ K := by
  obtain ⟨i, h1, h2, h3, h4⟩ := (hT e te hte).info
  have hd := (hT t ti ht).d
  rw [htd] at hd
  simp only [TD.Ok] at hd
  obtain ⟨w', hrun, hown, hgr⟩ := run_make_full (P := P) w B t e i te.zero 1 hd h1 h4 (by rw [h2, hsz]) kd kd k (by rw [h3]; omega) (by simp only [maxLen]; omega) hB
  have hext : Ext w w' := ⟨hgr.os, hgr.tape, hgr.output, hgr.size, fun b hb => hgr.block b hb (by simp)⟩
  have hlt := hown.lt w.heap.size rfl
  have hst := Stp.add hext hl hB (lR _) hlt.2
  refine o_val (w' := w') hg rfl hdn (fun a ha => ?_) (h w.heap.size w' rfl hext hst ⟨⟨List.replicate k te.zero, ?_, ?_⟩, ?_⟩)
  · simp [execOp, ha.ev hx, ha.ev hy, hrun]
  · have e1 : (madeCells te.zero.cells (k * 1)).toList = flat (List.replicate k te.zero) := by
      rw [flat_replicate hzc, hzc, Nat.mul_one, toList_madeCells_one]
    rw [e1] at hown
    rw [List.length_replicate, hrs]
    exact hown
  · clear h hrun hown hx hy hk hk2 hst
    induction k with
    | zero => exact trivial
    | succ k ih => exact ⟨hz _ _, ih⟩
  · intro b hb
    simp [Value.ownBlock] at hb
    exact .inr hb.symm
/-! ## append -/
theorem run_app {P : Program} {T : Tab} (hT : TabOk P T) {t tx e ty : TypeId} {ti te : TI} (ht : T.get t = some ti) (htd : ti.d = .sl e) (hte : T.get e = some te) {α : Type} [Rep α] (hrs : te.size = Rep.sz α) (hz : te.zero.cells.size = te.size)
    {B : Nat} {M : Nat → Prop} {w : World} {v : Value} {l k : List α} {us : List Value} (hown : OwnSl e B M w v l) {x : Value} (hsrc : Src P te.size tx x k.length (flat us) w) (hus : Rs M w us k) (hl : Low M w) (hB : B ≤ w.heap.size)
    (h63 : l.length + k.length < 140737488355328) (hbytes : (l.length + k.length) * te.bytes ≤ 140737488355328) :
    ∃ v' w' M', (Builtin.append_ #[t, tx] ty #[v, x]).run P w = .ok v' w' ∧ OwnSl e B M' w' v' (l ++ k) ∧ Stp B M M' w w' ∧ (∀ b, b < w.heap.size → some b ≠ v.ownBlock → w'.heap[b]? = w.heap[b]?) ∧
      (∀ b, v'.ownBlock = some b → v.ownBlock = some b ∨ w.heap.size ≤ b) := by
  obtain ⟨i, h1, h2, h3, h4⟩ := (hT e te hte).info
  have hd := (hT t ti ht).d
  rw [htd] at hd
  simp only [TD.Ok] at hd
  obtain ⟨vs, hr, hrv⟩ := hown.row
  have hpos : 0 < te.size := by rw [hrs]; exact Rep.pos
  have hfl : (flat us).length = k.length * te.size := by rw [hus.flat_length, hrs]
  have hfv : (flat vs).length = l.length * te.size := by rw [hrv.flat_length, hrs]
  -- a new block
  have grow : ∀ (old : Nat), old < l.length + k.length → (hrun : (Builtin.append_ #[t, tx] ty #[v, x]).run P w =
        .ok (.slice (some ⟨w.heap.size, 0, none⟩) (l.length + k.length) (grownCap w (l.length + k.length) old e)) (w.drew.alloc (.cells ((flat vs ++ flat us).toArray ++ Builtin.zeroCells te.zero.cells (grownCap w (l.length + k.length) old e - (l.length + k.length))) e))) →
      ∃ v' w' M', (Builtin.append_ #[t, tx] ty #[v, x]).run P w = .ok v' w' ∧ OwnSl e B M' w' v' (l ++ k) ∧ Stp B M M' w w' ∧ (∀ b, b < w.heap.size → some b ≠ v.ownBlock → w'.heap[b]? = w.heap[b]?) ∧
      (∀ b, v'.ownBlock = some b → v.ownBlock = some b ∨ w.heap.size ≤ b) := by
    intro old ho hrun
    have hge := grownCap_ge w (l.length + k.length) old e
    have hcm : grownCap w (l.length + k.length) old e ≤ maxLen := grownCap_le_maxLen w _ old e (by simp only [maxLen]; omega)
    have hext : Ext w (w.drew.alloc (.cells ((flat vs ++ flat us).toArray ++ Builtin.zeroCells te.zero.cells (grownCap w (l.length + k.length) old e - (l.length + k.length))) e)) :=
      (ext_drew w).then (ext_alloc w.drew _)
    have hst := Stp.add (B := B) (M := M) (b := w.heap.size) hext hl hB (lR _) (by simp)
    refine ⟨_, _, Add M w.heap.size, hrun, ⟨⟨vs ++ us, ⟨?_, .inr ⟨w.heap.size, _, _, ?_, hB, heap_alloc_new w.drew _, ?_, hcm, ?_, ?_⟩⟩, ?_⟩, ?_⟩, hst, fun b hb _ => hext.block b hb, ?_⟩
    · rw [flat_append, List.length_append, hfl, hfv, List.length_append, ← hrs, Nat.add_mul]
    · rw [List.length_append]
    · rw [List.length_append]; exact hge
    · simp only [Array.size_append, List.size_toArray, size_zeroCells, hz, List.length_append, hfl, hfv, ← Nat.add_mul, ← hrs]
      congr 1
      omega
    · rw [flat_append]
      simp only [Array.toList_append, List.length_append, ← hrs]
      have : (l.length + k.length) * te.size = (flat vs ++ flat us).length := by rw [List.length_append, hfl, hfv, Nat.add_mul]
      rw [this]
      exact List.take_left
    · exact Rs.append (Rs.upd (Rs.wk hrv hst.wk) (hext.upd _)) (Rs.upd (Rs.wk hus hst.wk) (hext.upd _))
    · intro b hb; simp [Value.ownBlock] at hb; exact .inr hb.symm
    · intro b hb; simp [Value.ownBlock] at hb; exact .inr (by omega)
  rcases hr.2 with ⟨rfl, hn⟩ | ⟨g, cap, cur, rfl, hbg, hgg, hnc, hcm, hcs, htake⟩
  · have hl0 : l = [] := List.eq_nil_of_length_eq_zero hn
    subst hl0
    have hv0 : flat vs = [] := List.eq_nil_of_length_eq_zero (by simpa using hfv)
    by_cases hk0 : k.length = 0
    · have hk' : k = [] := List.eq_nil_of_length_eq_zero hk0
      subst hk'
      have hu0 : flat us = [] := List.eq_nil_of_length_eq_zero (by simpa using hfl)
      refine ⟨.slice none 0 0, w, M, ?_, own_nil, Stp.refl hl, fun _ _ _ => rfl, by simp [Value.ownBlock]⟩
      have hc := hsrc.cells
      rw [hu0] at hc
      simp only [List.length_nil] at hc
      rcases hsrc.kind with ⟨e', hkk⟩ | hkk <;> simp [Builtin.append_, run_underlying hd, run_underlying hkk, Go.sizeOf, typeInfo, h1, hsrc.len, h2, hc]
    · refine grow 0 (by simp; omega) ?_
      have := run_append_grow_src (P := P) w t tx ty e i te.zero hd h1 h4 none 0 0 [] (by simp [Builtin.firstCells]) x k.length (flat us) (by rw [h2]; exact hsrc) (by omega) (by omega) (by rw [h3]; exact growslice_fits (by omega) (by simpa using hbytes))
      rw [hv0]
      simpa using this
  · by_cases hroom : l.length + k.length ≤ cap
    · have hfit : l.length * te.size + (flat us).length ≤ cur.size := by
        rw [hfl, hcs, ← hrs, ← Nat.add_mul]; exact Nat.mul_le_mul_right _ hroom
      have hst := run_storeCells_at P g (l.length * te.size) e (flat us) 0 cur w hgg (by simpa using hfit) hsrc.one
      simp only [Nat.add_zero] at hst
      have hrun : (Builtin.append_ #[t, tx] ty #[.slice (some ⟨g, 0, none⟩) l.length cap, x]).run P w = .ok (.slice (some ⟨g, 0, none⟩) (l.length + k.length) cap)
          (w.setRow g (cur.toList.take (l.length * te.size) ++ flat us ++ cur.toList.drop (l.length * te.size + (flat us).length)).toArray) := by
        have hc := hsrc.cells
        rcases hsrc.kind with ⟨e', hkk⟩ | hkk <;>
          simp [Builtin.append_, run_underlying hd, run_underlying hkk, Go.sizeOf, typeInfo, h1, hsrc.len, hroom, h2, hc, Addr.add_lit, hst]
      have hg : M g := hown.inM g rfl
      have hupd : Upd M w (w.setRow g (cur.toList.take (l.length * te.size) ++ flat us ++ cur.toList.drop (l.length * te.size + (flat us).length)).toArray) :=
        ⟨by simp, fun b hb hn => setRow_other w g b _ (fun e => hn (e ▸ hg))⟩
      refine ⟨_, _, M, hrun, ⟨⟨vs ++ us, ⟨?_, .inr ⟨g, cap, _, ?_, hbg, setRow_heap w g cur _ e _ hgg, ?_, hcm, ?_, ?_⟩⟩, ?_⟩, hown.inM⟩, ⟨hupd, fun _ _ h => h, fun _ h => h, fun b hb => by simpa using hl b hb, ⟨rfl, rfl, rfl, by simp, fun b hb => setRow_other w g b _ (by omega)⟩⟩,
        fun b hb hn => setRow_other w g b _ (fun e => hn (by simp [Value.ownBlock, e])), ?_⟩
      · rw [flat_append, List.length_append, hfl, hfv, List.length_append, ← hrs, Nat.add_mul]
      · rw [List.length_append]
      · rw [List.length_append]; exact hroom
      · simp only [List.size_toArray, List.length_append, List.length_take, List.length_drop, Array.length_toList]
        omega
      · rw [flat_append, ← htake]
        simp only [List.length_append, ← hrs]
        have h0 : (cur.toList.take (l.length * te.size)).length = l.length * te.size := by
          have hct : cur.toList.length = cap * te.size := by rw [hrs]; simpa using hcs
          have hle : l.length * te.size ≤ cap * te.size := Nat.mul_le_mul_right _ hnc
          rw [List.length_take, hct, Nat.min_eq_left hle]
        have : (l.length + k.length) * te.size = (cur.toList.take (l.length * te.size) ++ flat us).length := by rw [List.length_append, h0, hfl, Nat.add_mul]
        rw [this]
        exact List.take_left
      · exact Rs.append (Rs.upd hrv hupd) (Rs.upd hus hupd)
      · intro b hb; exact .inl hb
    · refine grow cap (by omega) ?_
      have holds : ∀ j u, (flat vs)[j]? = some u → w.drew.cell? ((⟨g, 0, none⟩ : Addr).add j) = some u := fun j u hj => by simpa using hr.cells (g := g) rfl j u hj
      have := run_append_grow_src (P := P) w t tx ty e i te.zero hd h1 h4 (some ⟨g, 0, none⟩) l.length cap (flat vs) (run_firstCells_some w.drew i.size l.length _ _ _ _ (by rw [hfv, h2]) holds) x k.length (flat us) (by rw [h2]; exact hsrc) (by omega) (by omega) (by rw [h3]; exact growslice_fits (by omega) hbytes)
      exact this
theorem src_sl {P : Program} {T : Tab} (hT : TabOk P T) {t e : TypeId} {ti te : TI} (ht : T.get t = some ti) (htd : ti.d = .sl e) {α : Type} [Rep α] (hrs : te.size = Rep.sz α) {M : Nat → Prop} {w : World} {x : Value} {k : List α} (h : Sl M w x k) :
    ∃ us, Src P te.size t x k.length (flat us) w ∧ Rs M w us k := by
  have hd := (hT t ti ht).d
  rw [htd] at hd
  simp only [TD.Ok] at hd
  obtain ⟨a, cap, rfl, _, _, he⟩ := h
  rcases he with rfl | ⟨b, off, rfl, hel⟩
  · refine ⟨[], ⟨.inl ⟨e, hd⟩, fun _ => rfl, ?_, ?_, by simp [flat], by simp [flat]⟩, trivial⟩ <;>
      cases a <;> simp [Builtin.firstCells, flat, loadCells, loadCellsFrom]
  · -- the elements' values, one by one
    have : ∀ (m : Nat) (hm : m ≤ k.length), ∃ us, Rs M w us (k.drop (k.length - m)) ∧ ∀ (i : Nat) (u : Value), us[i]? = some u → At M w b (off + (k.length - m + i) * Rep.sz α) u.cells.toList := by
      intro m
      induction m with
      | zero => intro _; exact ⟨[], by simp [Rs], by simp⟩
      | succ m ih =>
        intro hm
        obtain ⟨us, h1, h2⟩ := ih (by omega)
        obtain ⟨x, hx⟩ : ∃ x, k[k.length - (m + 1)]? = some x := ⟨_, gE (by omega)⟩
        obtain ⟨u, hu, hat⟩ := hel _ _ hx
        refine ⟨u :: us, ?_, ?_⟩
        · have e1 : k.drop (k.length - (m + 1)) = x :: k.drop (k.length - m) := by
            obtain ⟨hlt, rfl⟩ := List.getElem?_eq_some_iff.1 hx
            rw [List.drop_eq_getElem_cons hlt]
            congr 2
            omega
          rw [e1]
          exact ⟨hu, h1⟩
        · intro i y hy
          cases i with
          | zero => simp at hy; subst hy; exact hat
          | succ i =>
            have := h2 i y (by simpa using hy)
            rwa [show k.length - (m + 1) + (i + 1) = k.length - m + i by omega]
    obtain ⟨us, hus, hat⟩ := this k.length (lR _)
    simp only [Nat.sub_self, List.drop_zero, Nat.zero_add] at hus hat
    refine ⟨us, Src.ofSlice w hd ⟨b, off, none⟩ k.length cap (flat us) (by rw [hus.flat_length, hrs]) (fun j u hj => ?_) hus.flat_one, hus⟩
    -- cell j of the flat list
    have hs : ∀ v ∈ us, v.cells.size = Rep.sz α := hus.sizes
    have := Great.flat_get Rep.pos us hs j
    unfold flat at hj
    rw [this] at hj
    cases hu : us[j / Rep.sz α]? with
    | none => rw [hu] at hj; cases hj
    | some y =>
      rw [hu] at hj
      have hc := (hat _ _ hu).cell (j % Rep.sz α) u (by simpa using hj)
      rw [addr_add]
      rwa [show off + j = off + j / Rep.sz α * Rep.sz α + j % Rep.sz α by have := Nat.div_add_mod j (Rep.sz α); rw [Nat.mul_comm] at this; omega]
theorem o_app {t e B : Nat} {x y : Operand} {ti te : TI} {M : Nat → Prop} {α : Type} [Rep α] {v u : Value} {l k : List α} (hT : TabOk P T) (hown : OwnSl e B M w v l) (hsl : Sl M w u k) (hl : Low M w) (hB : B ≤ w.heap.size)
    (hx : Env.ev G x = some v) (hy : Env.ev G y = some u) (ht : T.get t = some ti) (htd : ti.d = .sl e) (hte : T.get e = some te) (hrs : te.size = Rep.sz α) (hz : te.zero.cells.size = te.size)
    (h63 : l.length + k.length < 140737488355328) (hbytes : (l.length + k.length) * te.bytes ≤ 140737488355328)
    (hg : gd ops G ⟨some d, .call ⟨.builtin .append, #[x, y], #[t, t]⟩, ty, pos, af, g⟩ = some true) (hdn : Nat.blt d n = true)
    (h : ∀ v' w' M', OwnSl e B M' w' v' (l ++ k) → Stp B M M' w w' → (∀ b, b < w.heap.size → some b ≠ v.ownBlock → w'.heap[b]? = w.heap[b]?) → (∀ b, v'.ownBlock = some b → v.ownBlock = some b ∨ w.heap.size ≤ b) → K ((d, v') :: G) w') :
    OW P n ops Q G w ⟨some d, .call ⟨.builtin .append, #[x, y], #[t, t]⟩, ty, pos, af, g⟩ K := by
  obtain ⟨us, hsrc, hus⟩ := src_sl (te := te) hT ht htd hrs hsl
  obtain ⟨v', w', M', hrun, h1, h2, h3, h4⟩ := run_app (ty := ty) hT ht htd hte hrs hz hown hsrc hus hl hB h63 hbytes
  refine o_val (w' := w') hg rfl hdn (fun a ha => ?_) (h v' w' M' h1 h2 h3 h4)
  simp [execOp, resolve, invoke, builtin, ha.ev hx, ha.ev hy, hrun]
theorem o_app1 {t e B b : Nat} {x y : Operand} {ti te : TI} {M : Nat → Prop} {α : Type} [Rep α] {v u : Value} {l : List α} {z : α} (hT : TabOk P T) (hown : OwnSl e B M w v l) (hb : Box w b e (flat [u])) (hbM : ¬ M b) (hR : Rep.R M w u z) (hl : Low M w) (hB : B ≤ w.heap.size)
    (hx : Env.ev G x = some v) (hy : Env.ev G y = some (.slice (some ⟨b, 0, none⟩) 1 1)) (ht : T.get t = some ti) (htd : ti.d = .sl e) (hte : T.get e = some te) (hrs : te.size = Rep.sz α) (hz : te.zero.cells.size = te.size)
    (h63 : l.length + 1 < 140737488355328) (hbytes : (l.length + 1) * te.bytes ≤ 140737488355328)
    (hg : gd ops G ⟨some d, .call ⟨.builtin .append, #[x, y], #[t, t]⟩, ty, pos, af, g⟩ = some true) (hdn : Nat.blt d n = true)
    (h : ∀ v' w' M', OwnSl e B M' w' v' (l ++ [z]) → Stp B M M' w w' → (∀ b, b < w.heap.size → some b ≠ v.ownBlock → w'.heap[b]? = w.heap[b]?) → (∀ b, v'.ownBlock = some b → v.ownBlock = some b ∨ w.heap.size ≤ b) → K ((d, v') :: G) w') :
    OW P n ops Q G w ⟨some d, .call ⟨.builtin .append, #[x, y], #[t, t]⟩, ty, pos, af, g⟩ K := by
  have hsl : Sl M w (.slice (some ⟨b, 0, none⟩) 1 1) [z] := by
    refine ⟨_, 1, rfl, by simp, by simp, .inr ⟨b, 0, rfl, fun i y hy => ?_⟩⟩
    cases i with
    | zero =>
      simp at hy; subst hy
      refine ⟨u, hR, ?_⟩
      have := hb.at hbM
      simpa [flat] using this
    | succ i => simp at hy
  exact o_app hT hown hsl hl hB hx hy ht htd hte hrs hz h63 hbytes hg hdn h
theorem lit_sl {α : Type} [Rep α] {e b : Nat} {M : Nat → Prop} {w : World} {us : List Value} {l : List α} (hb : Box w b e (flat us)) (hbM : ¬ M b) (hR : Rs M w us l) (hl : l.length < 140737488355328) : Sl M w (.slice (some ⟨b, 0, none⟩) l.length l.length) l := by
  refine ⟨_, l.length, rfl, hl, lR _, .inr ⟨b, 0, rfl, fun i x hx => ?_⟩⟩
  obtain ⟨u, hu, hx⟩ := hR.get hx
  refine ⟨u, hx, hb.lt, hbM, fun j c hc => ?_⟩
  have := hb.cell (i * Rep.sz α + j) c (hR.flat_get hu j c hc)
  rwa [show 0 + i * Rep.sz α + j = 0 + (i * Rep.sz α + j) by omega]
/-! ## Stores -/
theorem run_store_row {P : Program} {T : Tab} (hT : TabOk P T) {t : TypeId} {ti : TI} (ht : T.get t = some ti) {w : World} {b E j : Nat} {cs : Array Value} (hh : w.heap[b]? = some (.cells cs E (0, 0))) {v : Value} (hv : v.cells.size = ti.size) (ho : ∀ u ∈ v.cells.toList, u.oneCell' = true)
    (hj : j + v.cells.size ≤ cs.size) : (storeVar t ⟨b, j, none⟩ v).run P w = .ok () (w.setRow b (cs.toList.take j ++ v.cells.toList ++ cs.toList.drop (j + v.cells.size)).toArray) := by
  have := run_storeCells_at P b j E v.cells.toList 0 cs w hh (by simpa using hj) ho
  simp only [Nat.add_zero, Array.length_toList] at this
  simp [storeVar, run_sizeOf hT ht, hv, this]
theorem o_st {t : Nat} {x y : Operand} {ti : TI} {b j E : Nat} {cs : List Value} {v : Value} (hT : TabOk P T) (hb : Box w b E cs) (hx : Env.ev G x = some (.pointer (some ⟨b, j, none⟩))) (hy : Env.ev G y = some v) (ht : T.get t = some ti)
    (hv : v.cells.size = ti.size) (ho : ∀ u ∈ v.cells.toList, u.oneCell' = true) (hj : Nat.ble (j + ti.size) cs.length = true)
    (hg : gd ops G ⟨none, .store t x y, ty, pos, af, g⟩ = some true)
    (h : ∀ w', Box w' b E (cs.take j ++ v.cells.toList ++ cs.drop (j + v.cells.toList.length)) → Upd (fun z => z = b) w w' → (∀ B, B ≤ b → Below B w w') → K G w') : OW P n ops Q G w ⟨none, .store t x y, ty, pos, af, g⟩ K := by
  have hj' : j + v.cells.size ≤ cs.toArray.size := by rw [hv]; simpa using Nat.le_of_ble_eq_true hj
  have hrun := run_store_row hT ht hb.heap hv ho hj'
  refine o_unit (w' := w.setRow b (cs.take j ++ v.cells.toList ++ cs.drop (j + v.cells.size)).toArray) hg rfl (fun a ha => ?_) (h _ ⟨?_⟩ ⟨by simp, fun k _ hk => setRow_other w b k _ hk⟩ (fun B hB => ⟨rfl, rfl, rfl, by simp, fun k hk => setRow_other w b k _ (by omega)⟩))
  · simp [execOp, ha.ev hx, ha.ev hy, Instr.storeAt, Instr.sureAddr, hrun]
  · rw [setRow_heap w b _ _ E _ hb.heap, Array.length_toList]
theorem Upd.sp {B b : Nat} {M : Nat → Prop} {w w' : World} (h : Upd (fun z => z = b) w w') (hM : M b) (hl : Low M w) (hb : ∀ B, B ≤ b → Below B w w') (hB : B ≤ b) : Stp B M M w w' :=
  ⟨⟨h.1, fun x hx hn => h.2 x hx (fun e => hn (e ▸ hM))⟩, fun _ _ h => h, fun _ h => h, fun x hx => lT (hl x hx) h.1, hb B hB⟩
theorem sz1 {s : Nat} {x : Value} (h : x.cells.size = s) : ∀ v ∈ [x], v.cells.size = s := by simpa using h
theorem sz2 {s : Nat} {x y : Value} (h : x.cells.size = s) (k : y.cells.size = s) : ∀ v ∈ [x, y], v.cells.size = s := by simp [h, k]
/-- Cells of a slice of the call's own, now. -/
structure OAt (w : World) (b off : Nat) (cs : List Value) : Prop where
  cell : ∀ j v, cs[j]? = some v → w.cell? ⟨b, off + j, none⟩ = some v
theorem own_lit {α : Type} [Rep α] {e B b : Nat} {M : Nat → Prop} {us : List Value} {l : List α} (hb : Box w b e (flat us)) (hR : Rs M w us l) (hM : M b) (hB : B ≤ b) (hl : l.length ≤ maxLen) : OwnSl e B M w (.slice (some ⟨b, 0, none⟩) l.length l.length) l :=
  ⟨⟨us, ⟨hR.flat_length, .inr ⟨b, l.length, _, rfl, hB, hb.heap, lR _, hl, by simp [hR.flat_length], by rw [List.toList_toArray, ← hR.flat_length, List.take_length]⟩⟩, hR⟩, fun x hx => by simp [Value.ownBlock] at hx; subst hx; exact hM⟩
theorem ob_eq {b o l c x : Nat} (h : (Value.slice (some ⟨b, o, none⟩) l c).ownBlock = some x) : b = x := by simpa [Value.ownBlock] using h
theorem own_litS {α : Type} [Rep α] {e B b : Nat} {M : Nat → Prop} {w w' : World} {us : List Value} {l : List α} (s : Stp B M (Add M b) w w') (hb : Box w' b e (flat us)) (hR : Rs (Add M b) w' us l) (q : b = w.heap.size) (hB : B ≤ w.heap.size) (hl : l.length ≤ maxLen) : OwnSl e B (Add M b) w' (.slice (some ⟨b, 0, none⟩) l.length l.length) l :=
  let _ := s; own_lit hb hR (.inr rfl) (by omega) hl
theorem At.sl {α : Type} [Rep α] {M M' : Nat → Prop} {b o : Nat} {v : Value} {l : List α} (h : At M w b o v.cells.toList) (hs : Sl M' w v l) : At M w b o [v] := by
  rw [hs.cells] at h; exact h
theorem o_lenO {α : Type} [Rep α] {e B : Nat} {M : Nat → Prop} {v : Value} {l : List α} {t : TypeId} {x : Operand} {ti : TI} {e' : Nat} (hT : TabOk P T) (hs : OwnSl e B M w v l) (hx : Env.ev G x = some v) (ht : T.get t = some ti) (htd : ti.d = .sl e')
    (hg : gd ops G ⟨some d, .call ⟨.builtin .len, #[x], #[t]⟩, ty, pos, af, g⟩ = some true) (hdn : Nat.blt d n = true) (h : K ((d, .int .i64 (l.length : Int)) :: G) w) :
    OW P n ops Q G w ⟨some d, .call ⟨.builtin .len, #[x], #[t]⟩, ty, pos, af, g⟩ K := by
  obtain ⟨a, c, rfl, _⟩ := hs.val
  obtain ⟨td, _, _, _⟩ := ti
  simp only at htd
  subst htd
  exact o_p hT (by simp [pureS, hx, ht]) hg hdn h
theorem o_ixO {t e B : Nat} {x i : Operand} {k : IntKind} {z : Int} {j : Nat} {α : Type} [Rep α] {M : Nat → Prop} {v : Value} {l : List α} {y : α} {ti te : TI} (hT : TabOk P T) (hs : OwnSl e B M w v l) (hy : l[j]? = some y) (hx : Env.ev G x = some v) (hi : Env.ev G i = some (.int k z)) (hj : z = (j : Int))
    (ht : T.get t = some ti) (htd : ti.d = .sl e) (hte : T.get e = some te) (hsz : te.size = Rep.sz α)
    (hg : gd ops G ⟨some d, .indexAddr t x i, ty, pos, af, g⟩ = some true) (hdn : Nat.blt d n = true)
    (h : ∀ b u, v.ownBlock = some b → Rep.R M w u y → OAt w b (j * te.size) u.cells.toList → K ((d, .pointer (some ⟨b, j * te.size, none⟩)) :: G) w) : OW P n ops Q G w ⟨some d, .indexAddr t x i, ty, pos, af, g⟩ K := by
  obtain ⟨us, hr, hrs⟩ := hs.row
  have hlt : j < l.length := (List.getElem?_eq_some_iff.1 hy).1
  obtain ⟨u, hu, hR⟩ := hrs.get hy
  rcases hr.2 with ⟨rfl, hn⟩ | ⟨b, cap, cur, rfl, _, _, _⟩
  · omega
  · refine o_ix hT hx hi ht htd hte hj hlt hg hdn ?_
    rw [Nat.zero_add]
    refine h b u rfl hR ⟨fun c q hc => ?_⟩
    have := hr.cells (g := b) rfl (j * Rep.sz α + c) q (hrs.flat_get hu c q hc)
    rw [addr_add, Nat.zero_add] at this
    rw [hsz]; exact this
theorem Rs.set {α : Type} [Rep α] {M : Nat → Prop} {w : World} : ∀ {us : List Value} {l : List α}, Rs M w us l → ∀ (j : Nat) {u : Value} {y : α}, Rep.R M w u y → Rs M w (us.set j u) (l.set j y)
  | [], [], _, _, _, _, _ => trivial
  | _ :: _, _ :: _, h, 0, _, _, hr => ⟨hr, h.2⟩
  | _ :: _, _ :: _, h, j + 1, _, _, hr => ⟨h.1, Rs.set h.2 j hr⟩
  | [], _ :: _, h, _, _, _, _ => h.elim
  | _ :: _, [], h, _, _, _, _ => h.elim
theorem flat_set {s : Nat} : ∀ (us : List Value), (∀ v ∈ us, v.cells.size = s) → ∀ (j : Nat) (u : Value), j < us.length → u.cells.size = s →
    flat (us.set j u) = (flat us).take (j * s) ++ u.cells.toList ++ (flat us).drop (j * s + s)
  | [], _, j, u, hj, _ => by simp at hj
  | y :: ys, h, 0, u, _, hu => by
    have hy : y.cells.toList.length = s := by simpa using h y List.mem_cons_self
    simp only [List.set_cons_zero, flat, List.flatMap_cons, Nat.zero_mul, List.take_zero, List.nil_append, Nat.zero_add]
    rw [List.drop_append_of_le_length (by omega), List.drop_of_length_le (by omega), List.nil_append]
  | y :: ys, h, j + 1, u, hj, hu => by
    have hy : y.cells.toList.length = s := by simpa using h y List.mem_cons_self
    have ih := flat_set ys (fun v hv => h v (List.mem_cons_of_mem _ hv)) j u (by simpa using hj) hu
    simp only [List.set_cons_succ]
    have e1 : flat (y :: ys.set j u) = y.cells.toList ++ flat (ys.set j u) := by simp [flat]
    have e2 : flat (y :: ys) = y.cells.toList ++ flat ys := by simp [flat]
    rw [e1, e2, ih, Nat.add_mul, Nat.one_mul]
    have t1 : List.take (j * s + s) y.cells.toList = y.cells.toList := List.take_of_length_le (by rw [hy]; omega)
    have t2 : List.drop (j * s + s + s) y.cells.toList = [] := List.drop_of_length_le (by rw [hy]; omega)
    rw [List.take_append, List.drop_append, t1, t2, hy]
    rw [show j * s + s - s = j * s by omega, show j * s + s + s - s = j * s + s by omega]
    simp
theorem take_splice (c u : List Value) (j m : Nat) (h1 : j + u.length ≤ m) (h2 : m ≤ c.length) :
    (c.take j ++ u ++ c.drop (j + u.length)).take m = c.take j ++ u ++ (c.take m).drop (j + u.length) := by
  have e1 : (c.take j).length = j := by rw [List.length_take]; omega
  have t1 : (c.take j).take m = c.take j := List.take_of_length_le (by rw [e1]; omega)
  have t2 : u.take (m - j) = u := List.take_of_length_le (by omega)
  rw [List.append_assoc, List.take_append, t1, e1, List.take_append, t2, List.drop_take, List.append_assoc]
  congr 3
  omega
theorem o_stO {t e B : Nat} {x y : Operand} {b o j : Nat} {α : Type} [Rep α] {M : Nat → Prop} {v u : Value} {l : List α} {z : α} {te : TI} (hT : TabOk P T) (hs : OwnSl e B M w v l) (hb : v.ownBlock = some b) (hj : j < l.length) (hR : Rep.R M w u z) (hl : Low M w)
    (hx : Env.ev G x = some (.pointer (some ⟨b, o, none⟩))) (ho : o = j * te.size) (hy : Env.ev G y = some u) (ht : T.get t = some te) (hsz : te.size = Rep.sz α)
    (hg : gd ops G ⟨none, .store t x y, ty, pos, af, g⟩ = some true)
    (h : ∀ w', OwnSl e B M w' v (l.set j z) → Stp B M M w w' → (∀ k, k < w.heap.size → k ≠ b → w'.heap[k]? = w.heap[k]?) → K G w') : OW P n ops Q G w ⟨none, .store t x y, ty, pos, af, g⟩ K := by
  obtain ⟨us, hr, hrs⟩ := hs.row
  subst ho
  rcases hr.2 with ⟨rfl, hn⟩ | ⟨b', cap, cur, rfl, hB, hh, hnc, hcm, hcs, htake⟩
  · omega
  simp only [Value.ownBlock, Option.some.injEq] at hb
  subst hb
  have husz : u.cells.size = te.size := by rw [hsz]; exact Rep.size hR
  have hlen : us.length = l.length := hrs.length
  have hle : (j + 1) * te.size ≤ l.length * te.size := Nat.mul_le_mul_right _ hj
  have hle2 : l.length * te.size ≤ cap * te.size := Nat.mul_le_mul_right _ hnc
  rw [Nat.add_mul, Nat.one_mul] at hle
  have hfit : j * te.size + u.cells.size ≤ cur.size := by rw [husz, hcs, ← hsz]; omega
  have hrun := run_store_row hT ht hh husz (Rep.one hR) hfit
  have hM := hs.inM b' rfl
  refine o_unit (w' := w.setRow b' (cur.toList.take (j * te.size) ++ u.cells.toList ++ cur.toList.drop (j * te.size + u.cells.size)).toArray) hg rfl (fun a ha => ?_)
    (h _ ⟨⟨us.set j u, ⟨?_, .inr ⟨b', cap, _, ?_, hB, setRow_heap w b' cur _ e _ hh, ?_, hcm, ?_, ?_⟩⟩, ?_⟩, hs.inM⟩ ?_ (fun k _ hk => setRow_other w b' k _ hk))
  · simp [execOp, ha.ev hx, ha.ev hy, Instr.storeAt, Instr.sureAddr, hrun]
  · have := (hrs.set j hR).flat_length
    rw [this]
  · rw [List.length_set]
  · rw [List.length_set]; exact hnc
  · simp only [List.size_toArray, List.length_append, List.length_take, List.length_drop, Array.length_toList]
    omega
  · rw [List.length_set, flat_set us hrs.sizes j u (by omega) (by rw [husz, hsz]), ← htake]
    rw [hsz] at hle hle2 hfit husz
    simp only [hsz, husz]
    have hct : cur.toList.length = cap * Rep.sz α := by simpa using hcs
    have hul : u.cells.toList.length = Rep.sz α := by simpa using husz
    have hml : (j + 1) * Rep.sz α ≤ l.length * Rep.sz α := Nat.mul_le_mul_right _ hj
    rw [Nat.add_mul, Nat.one_mul] at hml
    have := take_splice cur.toList u.cells.toList (j * Rep.sz α) (l.length * Rep.sz α) (by rw [hul]; exact hml) (by rw [hct]; exact hle2)
    rw [hul] at this
    rw [this, List.take_take, Nat.min_eq_left (by omega)]
  · exact Rs.set (Rs.upd hrs ⟨by simp, fun k _ hk => setRow_other w b' k _ (fun e => hk (e ▸ hM))⟩) j (Rep.upd hR ⟨by simp, fun k _ hk => setRow_other w b' k _ (fun e => hk (e ▸ hM))⟩)
  · exact ⟨⟨by simp, fun k _ hk => setRow_other w b' k _ (fun e => hk (e ▸ hM))⟩, fun _ _ h => h, fun _ h => h, fun k hk => by simpa using hl k hk, ⟨rfl, rfl, rfl, by simp, fun k hk => setRow_other w b' k _ (by omega)⟩⟩
end
open Go Go.RowKit
/-- A struct's cells with some fields put in; a field: its place, its size. -/
def fillL (pl : List (Nat × Nat)) : List Value → List (Nat × List Value) → Option (List Value)
  | cells, [] => some cells
  | cells, (i, cs) :: r => match pl[i]? with
    | none => none
    | some (off, size) => bif Nat.beq cs.length size && Nat.ble (off + cs.length) cells.length then fillL pl (cells.take off ++ cs ++ cells.drop (off + cs.length)) r else none
theorem splice_fold (off : Nat) (l : List Value) (cs : Array Value) (h : off + l.length ≤ cs.size) :
    ((l.zipIdx 0).foldl (fun cs (x : Value × Nat) => cs.setIfInBounds (off + x.2) x.1) cs) = (cs.toList.take off ++ l ++ cs.toList.drop (off + l.length)).toArray := by
  obtain ⟨h1, h2⟩ := Great.foldl_set off l 0 cs
  apply Array.ext_getElem?
  intro k
  rw [h2 k]
  simp only [Nat.add_zero, List.getElem?_toArray]
  by_cases hk : k < off
  · rw [if_neg (by omega), List.append_assoc, List.getElem?_append_left (by simp; omega), List.getElem?_take]
    simp [hk]
  · by_cases hk2 : k < off + l.length
    · rw [if_pos ⟨by omega, hk2, by omega⟩, List.append_assoc, List.getElem?_append_right (by simp; omega)]
      have e : (cs.toList.take off).length = off := by simp; omega
      rw [e, List.getElem?_append_left (by omega)]
    · rw [if_neg (by omega), List.getElem?_append_right (by simp; omega)]
      have e : (cs.toList.take off ++ l).length = off + l.length := by simp; omega
      rw [e, List.getElem?_drop]
      simp only [Array.getElem?_toList]
      congr 1
      omega
theorem fill_L {place : Nat → Option (Nat × Nat)} {pl : List (Nat × Nat)} (hpl : ∀ i, place i = pl[i]?) : ∀ (ps : List (Nat × Value)) (cells : Array Value) (r : List Value),
    fillL pl cells.toList (ps.map fun p => (p.1, p.2.cells.toList)) = some r → Instr.fill place cells ps = some r.toArray
  | [], cells, r, h => by
    simp [fillL] at h
    subst h
    simp [Instr.fill]
  | (i, v) :: ps, cells, r, h => by
    simp only [List.map_cons, fillL] at h
    unfold Instr.fill
    rw [hpl]
    cases hi : pl[i]? with
    | none => rw [hi] at h; simp at h
    | some p =>
      obtain ⟨off, size⟩ := p
      rw [hi] at h
      simp only at h ⊢
      cases hc : (Nat.beq v.cells.toList.length size && Nat.ble (off + v.cells.toList.length) cells.toList.length) with
      | false => rw [hc] at h; simp at h
      | true =>
        rw [hc] at h
        simp only [cond_true] at h
        rw [Bool.and_eq_true] at hc
        have h1 : v.cells.size = size := by have := Nat.eq_of_beq_eq_true hc.1; simpa using this
        have h2 : off + v.cells.size ≤ cells.size := by have := Nat.le_of_ble_eq_true hc.2; simpa using this
        rw [if_neg (by simp [h1]; omega)]
        have e := splice_fold off v.cells.toList cells (by simpa using h2)
        have e2 : v.cells.zipIdx.foldl (fun cs (x : Value × Nat) => cs.setIfInBounds (off + x.2) x.1) cells = ((v.cells.toList.zipIdx 0).foldl (fun cs (x : Value × Nat) => cs.setIfInBounds (off + x.2) x.1) cells) := by
          rw [← Array.foldl_toList, Array.toList_zipIdx]
        show Instr.fill place (v.cells.zipIdx.foldl (fun cs (x : Value × Nat) => cs.setIfInBounds (off + x.2) x.1) cells) ps = _
        rw [e2, e]
        exact fill_L hpl ps _ r (by simpa using h)
/-- A struct type's fields lie so, and its zero value is so. -/
def BuildOk (P : Program) (t : TypeId) (zero : List Value) (pl : List (Nat × Nat)) : Prop :=
  ∀ (parts : Array (Nat × Value)) (cells : Array Value) (w : World), Instr.fill (fun x => pl[x]?) (Value.agg zero.toArray).cells parts.toList = some cells → (Instr.build t parts).run P w = .ok (.agg cells) w
section
variable {P : Program} {T : Tab} {n : Nat} {ops : Array Oper} {Q : Exit → Act → World → Prop} {G : Env} {w : World} {K : Env → World → Prop}
  {d ty : Nat} {pos : String} {af : Array Go.Edge} {g : Option (Nat × Bool)}
theorem run_build {t : Nat} {ps : Array (Nat × Operand)} {vs : List Value} {css : List (List Value)} {zero cells : List Value} {pl : List (Nat × Nat)} (hb : BuildOk P t zero pl) (hv : Env.evs G (ps.toList.map (·.2)) = some vs) (hcs : vs.map (·.cells.toList) = css)
    (hf : fillL pl zero ((ps.toList.map (·.1)).zip css) = some cells) {a : Act} (ha : Models n a G) (w : World) : (execOp a.eval ⟨some d, .build t ps, ty, pos, af, g⟩).run P w = .ok (.value (.agg cells.toArray)) w := by
  have he := ha.evs hv
  have hparts : (ps.map fun (i, x) => (i, a.eval x)).toList = (ps.toList.map (·.1)).zip vs := by
    rw [← he]
    simp only [Array.toList_map, List.map_map]
    rw [List.zip_map']
    rfl
  have hfill : Instr.fill (fun x => pl[x]?) (Value.agg zero.toArray).cells (ps.map fun (i, x) => (i, a.eval x)).toList = some cells.toArray := by
    refine fill_L (pl := pl) (fun i => rfl) _ _ _ ?_
    rw [hparts]
    subst hcs
    have e : ((ps.toList.map (·.1)).zip vs).map (fun p => (p.1, p.2.cells.toList)) = (ps.toList.map (·.1)).zip (vs.map (·.cells.toList)) := by
      rw [List.zip_map_right]
      rfl
    rw [e]
    exact hf
  have := hb _ _ w hfill
  simp [execOp, this]
theorem o_build {t : Nat} {ps : Array (Nat × Operand)} {vs : List Value} {css : List (List Value)} {zero cells : List Value} {pl : List (Nat × Nat)} (hb : BuildOk P t zero pl) (hv : Env.evs G (ps.toList.map (·.2)) = some vs) (hcs : vs.map (·.cells.toList) = css)
    (hf : fillL pl zero ((ps.toList.map (·.1)).zip css) = some cells)
    (hg : gd ops G ⟨some d, .build t ps, ty, pos, af, g⟩ = some true) (hdn : Nat.blt d n = true) (h : K ((d, .agg cells.toArray) :: G) w) : OW P n ops Q G w ⟨some d, .build t ps, ty, pos, af, g⟩ K :=
  o_val hg rfl hdn (fun _ ha => run_build hb hv hcs hf ha w) h
end
end Rw
namespace Go.Proofs.YtpoahmeacjggfaaGreat
open Go Rw
set_option maxRecDepth 100000
theorem ti2 : TIOk Tryz.prog 2 ⟨.int .i64, 1, 8, .int .i64 0⟩ := ⟨⟨_, rfl, rfl, rfl, rfl⟩, Tryz.underlying2⟩
theorem ti3 : TIOk Tryz.prog 3 ⟨.int .i64, 1, 8, .int .i64 0⟩ := ⟨⟨_, rfl, rfl, rfl, rfl⟩, Tryz.underlying3⟩
theorem ti4 : TIOk Tryz.prog 4 ⟨.bool, 1, 1, .bool false⟩ := ⟨⟨_, rfl, rfl, rfl, rfl⟩, Tryz.underlying4⟩
theorem ti5 : TIOk Tryz.prog 5 ⟨.int .u8, 1, 1, .int .u8 0⟩ := ⟨⟨_, rfl, rfl, rfl, rfl⟩, Tryz.underlying5⟩
theorem ti9 : TIOk Tryz.prog 9 ⟨.str, 1, 16, .string ⟨#[]⟩⟩ := ⟨⟨_, rfl, rfl, rfl, rfl⟩, Tryz.underlying9⟩
theorem ti22 : TIOk Tryz.prog 22 ⟨.sl 9, 1, 24, .slice none 0 0⟩ := ⟨⟨_, rfl, rfl, rfl, rfl⟩, Tryz.underlying22⟩
theorem ti23 : TIOk Tryz.prog 23 ⟨.sl 31, 1, 24, .slice none 0 0⟩ := ⟨⟨_, rfl, rfl, rfl, rfl⟩, Tryz.underlying23⟩
theorem ti26 : TIOk Tryz.prog 26 ⟨.int .u8, 1, 1, .int .u8 0⟩ := ⟨⟨_, rfl, rfl, rfl, rfl⟩, Tryz.underlying26⟩
theorem ti27 : TIOk Tryz.prog 27 ⟨.sl 29, 1, 24, .slice none 0 0⟩ := ⟨⟨_, rfl, rfl, rfl, rfl⟩, Tryz.underlying27⟩
theorem ti29 : TIOk Tryz.prog 29 ⟨.st [(0, 26), (1, 9), (2, 3), (3, 27)], 4, 56, .agg #[.int .u8 0, .string ⟨#[]⟩, .int .i64 0, .slice none 0 0]⟩ := ⟨⟨_, rfl, rfl, rfl, rfl⟩, ⟨_, Tryz.underlying29, rfl, ⟨⟨_, _, rfl, rfl, rfl, rfl, rfl⟩, ⟨⟨_, _, rfl, rfl, rfl, rfl, rfl⟩, ⟨⟨_, _, rfl, rfl, rfl, rfl, rfl⟩, ⟨⟨_, _, rfl, rfl, rfl, rfl, rfl⟩, trivial⟩⟩⟩⟩⟩⟩
theorem ti31 : TIOk Tryz.prog 31 ⟨.st [(0, 26), (1, 9), (2, 9), (3, 2), (4, 4), (5, 29), (9, 23)], 10, 136, .agg #[.int .u8 0, .string ⟨#[]⟩, .string ⟨#[]⟩, .int .i64 0, .bool false, .int .u8 0, .string ⟨#[]⟩, .int .i64 0, .slice none 0 0, .slice none 0 0]⟩ := ⟨⟨_, rfl, rfl, rfl, rfl⟩, ⟨_, Tryz.underlying31, rfl, ⟨⟨_, _, rfl, rfl, rfl, rfl, rfl⟩, ⟨⟨_, _, rfl, rfl, rfl, rfl, rfl⟩, ⟨⟨_, _, rfl, rfl, rfl, rfl, rfl⟩, ⟨⟨_, _, rfl, rfl, rfl, rfl, rfl⟩, ⟨⟨_, _, rfl, rfl, rfl, rfl, rfl⟩, ⟨⟨_, _, rfl, rfl, rfl, rfl, rfl⟩, ⟨⟨_, _, rfl, rfl, rfl, rfl, rfl⟩, trivial⟩⟩⟩⟩⟩⟩⟩⟩⟩
theorem ti32 : TIOk Tryz.prog 32 ⟨.sl 35, 1, 24, .slice none 0 0⟩ := ⟨⟨_, rfl, rfl, rfl, rfl⟩, Tryz.underlying32⟩
theorem ti35 : TIOk Tryz.prog 35 ⟨.sl 3, 1, 24, .slice none 0 0⟩ := ⟨⟨_, rfl, rfl, rfl, rfl⟩, Tryz.underlying35⟩
theorem ti38 : TIOk Tryz.prog 38 ⟨.mp 9 3, 1, 8, .map none⟩ := ⟨⟨_, rfl, rfl, rfl, rfl⟩, Tryz.underlying38⟩
theorem ti46 : TIOk Tryz.prog 46 ⟨.sl 4, 1, 24, .slice none 0 0⟩ := ⟨⟨_, rfl, rfl, rfl, rfl⟩, Tryz.underlying46⟩
theorem ti50 : TIOk Tryz.prog 50 ⟨.fn, 1, 8, .nilFunc⟩ := ⟨⟨_, rfl, rfl, rfl, rfl⟩, ⟨_, _, _, Tryz.underlying50⟩⟩
theorem ti53 : TIOk Tryz.prog 53 ⟨.mp 9 4, 1, 8, .map none⟩ := ⟨⟨_, rfl, rfl, rfl, rfl⟩, Tryz.underlying53⟩
theorem ti55 : TIOk Tryz.prog 55 ⟨.st [(0, 38), (1, 53)], 2, 16, .agg #[.map none, .map none]⟩ := ⟨⟨_, rfl, rfl, rfl, rfl⟩, ⟨_, Tryz.underlying55, rfl, ⟨⟨_, _, rfl, rfl, rfl, rfl, rfl⟩, ⟨⟨_, _, rfl, rfl, rfl, rfl, rfl⟩, trivial⟩⟩⟩⟩
theorem ti59 : TIOk Tryz.prog 59 ⟨.fn, 1, 8, .nilFunc⟩ := ⟨⟨_, rfl, rfl, rfl, rfl⟩, ⟨_, _, _, Tryz.underlying59⟩⟩
theorem ti63 : TIOk Tryz.prog 63 ⟨.int .u64, 1, 8, .int .u64 0⟩ := ⟨⟨_, rfl, rfl, rfl, rfl⟩, Tryz.underlying63⟩
theorem ti68 : TIOk Tryz.prog 68 ⟨.ptr 55, 1, 8, .pointer none⟩ := ⟨⟨_, rfl, rfl, rfl, rfl⟩, Tryz.underlying68⟩
theorem ti73 : TIOk Tryz.prog 73 ⟨.int .i64, 1, 8, .int .i64 0⟩ := ⟨⟨_, rfl, rfl, rfl, rfl⟩, Tryz.underlying73⟩
theorem ti81 : TIOk Tryz.prog 81 ⟨.int .u32, 1, 4, .int .u32 0⟩ := ⟨⟨_, rfl, rfl, rfl, rfl⟩, Tryz.underlying81⟩
theorem ti83 : TIOk Tryz.prog 83 ⟨.int .u64, 1, 8, .int .u64 0⟩ := ⟨⟨_, rfl, rfl, rfl, rfl⟩, Tryz.underlying83⟩
theorem ti88 : TIOk Tryz.prog 88 ⟨.st [(0, 4), (1, 4), (2, 3), (3, 3)], 4, 24, .agg #[.bool false, .bool false, .int .i64 0, .int .i64 0]⟩ := ⟨⟨_, rfl, rfl, rfl, rfl⟩, ⟨_, Tryz.underlying88, rfl, ⟨⟨_, _, rfl, rfl, rfl, rfl, rfl⟩, ⟨⟨_, _, rfl, rfl, rfl, rfl, rfl⟩, ⟨⟨_, _, rfl, rfl, rfl, rfl, rfl⟩, ⟨⟨_, _, rfl, rfl, rfl, rfl, rfl⟩, trivial⟩⟩⟩⟩⟩⟩
theorem ti96 : TIOk Tryz.prog 96 ⟨.int .u64, 1, 8, .int .u64 0⟩ := ⟨⟨_, rfl, rfl, rfl, rfl⟩, Tryz.underlying96⟩
theorem ti100 : TIOk Tryz.prog 100 ⟨.ptr 3, 1, 8, .pointer none⟩ := ⟨⟨_, rfl, rfl, rfl, rfl⟩, Tryz.underlying100⟩
theorem ti121 : TIOk Tryz.prog 121 ⟨.sl 125, 1, 24, .slice none 0 0⟩ := ⟨⟨_, rfl, rfl, rfl, rfl⟩, Tryz.underlying121⟩
theorem ti125 : TIOk Tryz.prog 125 ⟨.st [(0, 9), (1, 29)], 5, 72, .agg #[.string ⟨#[]⟩, .int .u8 0, .string ⟨#[]⟩, .int .i64 0, .slice none 0 0]⟩ := ⟨⟨_, rfl, rfl, rfl, rfl⟩, ⟨_, Tryz.underlying125, rfl, ⟨⟨_, _, rfl, rfl, rfl, rfl, rfl⟩, ⟨⟨_, _, rfl, rfl, rfl, rfl, rfl⟩, trivial⟩⟩⟩⟩
theorem ti128 : TIOk Tryz.prog 128 ⟨.mp 3 4, 1, 8, .map none⟩ := ⟨⟨_, rfl, rfl, rfl, rfl⟩, Tryz.underlying128⟩
theorem ti129 : TIOk Tryz.prog 129 ⟨.mp 3 4, 1, 8, .map none⟩ := ⟨⟨_, rfl, rfl, rfl, rfl⟩, Tryz.underlying129⟩
theorem ti136 : TIOk Tryz.prog 136 ⟨.fn, 1, 8, .nilFunc⟩ := ⟨⟨_, rfl, rfl, rfl, rfl⟩, ⟨_, _, _, Tryz.underlying136⟩⟩
theorem ti142 : TIOk Tryz.prog 142 ⟨.fn, 1, 8, .nilFunc⟩ := ⟨⟨_, rfl, rfl, rfl, rfl⟩, ⟨_, _, _, Tryz.underlying142⟩⟩
def tb : Tab := [(2, ⟨.int .i64, 1, 8, .int .i64 0⟩), (3, ⟨.int .i64, 1, 8, .int .i64 0⟩), (4, ⟨.bool, 1, 1, .bool false⟩), (5, ⟨.int .u8, 1, 1, .int .u8 0⟩), (9, ⟨.str, 1, 16, .string ⟨#[]⟩⟩), (22, ⟨.sl 9, 1, 24, .slice none 0 0⟩), (23, ⟨.sl 31, 1, 24, .slice none 0 0⟩), (26, ⟨.int .u8, 1, 1, .int .u8 0⟩), (27, ⟨.sl 29, 1, 24, .slice none 0 0⟩), (29, ⟨.st [(0, 26), (1, 9), (2, 3), (3, 27)], 4, 56, .agg #[.int .u8 0, .string ⟨#[]⟩, .int .i64 0, .slice none 0 0]⟩), (31, ⟨.st [(0, 26), (1, 9), (2, 9), (3, 2), (4, 4), (5, 29), (9, 23)], 10, 136, .agg #[.int .u8 0, .string ⟨#[]⟩, .string ⟨#[]⟩, .int .i64 0, .bool false, .int .u8 0, .string ⟨#[]⟩, .int .i64 0, .slice none 0 0, .slice none 0 0]⟩), (32, ⟨.sl 35, 1, 24, .slice none 0 0⟩), (35, ⟨.sl 3, 1, 24, .slice none 0 0⟩), (38, ⟨.mp 9 3, 1, 8, .map none⟩), (46, ⟨.sl 4, 1, 24, .slice none 0 0⟩), (50, ⟨.fn, 1, 8, .nilFunc⟩), (53, ⟨.mp 9 4, 1, 8, .map none⟩), (55, ⟨.st [(0, 38), (1, 53)], 2, 16, .agg #[.map none, .map none]⟩), (59, ⟨.fn, 1, 8, .nilFunc⟩), (63, ⟨.int .u64, 1, 8, .int .u64 0⟩), (68, ⟨.ptr 55, 1, 8, .pointer none⟩), (73, ⟨.int .i64, 1, 8, .int .i64 0⟩), (81, ⟨.int .u32, 1, 4, .int .u32 0⟩), (83, ⟨.int .u64, 1, 8, .int .u64 0⟩), (88, ⟨.st [(0, 4), (1, 4), (2, 3), (3, 3)], 4, 24, .agg #[.bool false, .bool false, .int .i64 0, .int .i64 0]⟩), (96, ⟨.int .u64, 1, 8, .int .u64 0⟩), (100, ⟨.ptr 3, 1, 8, .pointer none⟩), (121, ⟨.sl 125, 1, 24, .slice none 0 0⟩), (125, ⟨.st [(0, 9), (1, 29)], 5, 72, .agg #[.string ⟨#[]⟩, .int .u8 0, .string ⟨#[]⟩, .int .i64 0, .slice none 0 0]⟩), (128, ⟨.mp 3 4, 1, 8, .map none⟩), (129, ⟨.mp 3 4, 1, 8, .map none⟩), (136, ⟨.fn, 1, 8, .nilFunc⟩), (142, ⟨.fn, 1, 8, .nilFunc⟩)]
theorem tK : TabOk Tryz.prog tb := tab_cons ti2 (tab_cons ti3 (tab_cons ti4 (tab_cons ti5 (tab_cons ti9 (tab_cons ti22 (tab_cons ti23 (tab_cons ti26 (tab_cons ti27 (tab_cons ti29 (tab_cons ti31 (tab_cons ti32 (tab_cons ti35 (tab_cons ti38 (tab_cons ti46 (tab_cons ti50 (tab_cons ti53 (tab_cons ti55 (tab_cons ti59 (tab_cons ti63 (tab_cons ti68 (tab_cons ti73 (tab_cons ti81 (tab_cons ti83 (tab_cons ti88 (tab_cons ti96 (tab_cons ti100 (tab_cons ti121 (tab_cons ti125 (tab_cons ti128 (tab_cons ti129 (tab_cons ti136 (tab_cons ti142 (tab_nil)))))))))))))))))))))))))))))))))
theorem fo4 : FnOk Tryz.prog 4 := ⟨⟨_, _, Tryz.func4, by decide, rfl⟩⟩
theorem fo5 : FnOk Tryz.prog 5 := ⟨⟨_, _, Tryz.func5, by decide, rfl⟩⟩
theorem fo6 : FnOk Tryz.prog 6 := ⟨⟨_, _, Tryz.func6, by decide, rfl⟩⟩
theorem fo7 : FnOk Tryz.prog 7 := ⟨⟨_, _, Tryz.func7, by decide, rfl⟩⟩
theorem fo8 : FnOk Tryz.prog 8 := ⟨⟨_, _, Tryz.func8, by decide, rfl⟩⟩
theorem fo9 : FnOk Tryz.prog 9 := ⟨⟨_, _, Tryz.func9, by decide, rfl⟩⟩
theorem fo10 : FnOk Tryz.prog 10 := ⟨⟨_, _, Tryz.func10, by decide, rfl⟩⟩
theorem fo11 : FnOk Tryz.prog 11 := ⟨⟨_, _, Tryz.func11, by decide, rfl⟩⟩
theorem fo12 : FnOk Tryz.prog 12 := ⟨⟨_, _, Tryz.func12, by decide, rfl⟩⟩
theorem fo13 : FnOk Tryz.prog 13 := ⟨⟨_, _, Tryz.func13, by decide, rfl⟩⟩
theorem fo14 : FnOk Tryz.prog 14 := ⟨⟨_, _, Tryz.func14, by decide, rfl⟩⟩
theorem fo15 : FnOk Tryz.prog 15 := ⟨⟨_, _, Tryz.func15, by decide, rfl⟩⟩
theorem fo16 : FnOk Tryz.prog 16 := ⟨⟨_, _, Tryz.func16, by decide, rfl⟩⟩
theorem fo17 : FnOk Tryz.prog 17 := ⟨⟨_, _, Tryz.func17, by decide, rfl⟩⟩
theorem fo18 : FnOk Tryz.prog 18 := ⟨⟨_, _, Tryz.func18, by decide, rfl⟩⟩
theorem fo19 : FnOk Tryz.prog 19 := ⟨⟨_, _, Tryz.func19, by decide, rfl⟩⟩
theorem fo20 : FnOk Tryz.prog 20 := ⟨⟨_, _, Tryz.func20, by decide, rfl⟩⟩
theorem fo21 : FnOk Tryz.prog 21 := ⟨⟨_, _, Tryz.func21, by decide, rfl⟩⟩
theorem fo22 : FnOk Tryz.prog 22 := ⟨⟨_, _, Tryz.func22, by decide, rfl⟩⟩
theorem fo23 : FnOk Tryz.prog 23 := ⟨⟨_, _, Tryz.func23, by decide, rfl⟩⟩
theorem fo24 : FnOk Tryz.prog 24 := ⟨⟨_, _, Tryz.func24, by decide, rfl⟩⟩
theorem fo27 : FnOk Tryz.prog 27 := ⟨⟨_, _, Tryz.func27, by decide, rfl⟩⟩
theorem fo28 : FnOk Tryz.prog 28 := ⟨⟨_, _, Tryz.func28, by decide, rfl⟩⟩
theorem fo29 : FnOk Tryz.prog 29 := ⟨⟨_, _, Tryz.func29, by decide, rfl⟩⟩
theorem fo30 : FnOk Tryz.prog 30 := ⟨⟨_, _, Tryz.func30, by decide, rfl⟩⟩
theorem fo31 : FnOk Tryz.prog 31 := ⟨⟨_, _, Tryz.func31, by decide, rfl⟩⟩
theorem fo32 : FnOk Tryz.prog 32 := ⟨⟨_, _, Tryz.func32, by decide, rfl⟩⟩
theorem fo33 : FnOk Tryz.prog 33 := ⟨⟨_, _, Tryz.func33, by decide, rfl⟩⟩
theorem fo48 : FnOk Tryz.prog 48 := ⟨⟨_, _, Tryz.func48, by decide, rfl⟩⟩
theorem fo49 : FnOk Tryz.prog 49 := ⟨⟨_, _, Tryz.func49, by decide, rfl⟩⟩
theorem fo50 : FnOk Tryz.prog 50 := ⟨⟨_, _, Tryz.func50, by decide, rfl⟩⟩
theorem fo51 : FnOk Tryz.prog 51 := ⟨⟨_, _, Tryz.func51, by decide, rfl⟩⟩
theorem fo52 : FnOk Tryz.prog 52 := ⟨⟨_, _, Tryz.func52, by decide, rfl⟩⟩
theorem fo53 : FnOk Tryz.prog 53 := ⟨⟨_, _, Tryz.func53, by decide, rfl⟩⟩
theorem fo54 : FnOk Tryz.prog 54 := ⟨⟨_, _, Tryz.func54, by decide, rfl⟩⟩
theorem fo55 : FnOk Tryz.prog 55 := ⟨⟨_, _, Tryz.func55, by decide, rfl⟩⟩
theorem fo56 : FnOk Tryz.prog 56 := ⟨⟨_, _, Tryz.func56, by decide, rfl⟩⟩
theorem fo57 : FnOk Tryz.prog 57 := ⟨⟨_, _, Tryz.func57, by decide, rfl⟩⟩
theorem fo58 : FnOk Tryz.prog 58 := ⟨⟨_, _, Tryz.func58, by decide, rfl⟩⟩
theorem fo67 : FnOk Tryz.prog 67 := ⟨⟨_, _, Tryz.func67, by decide, rfl⟩⟩
theorem fo68 : FnOk Tryz.prog 68 := ⟨⟨_, _, Tryz.func68, by decide, rfl⟩⟩
theorem fo69 : FnOk Tryz.prog 69 := ⟨⟨_, _, Tryz.func69, by decide, rfl⟩⟩
theorem fo70 : FnOk Tryz.prog 70 := ⟨⟨_, _, Tryz.func70, by decide, rfl⟩⟩
theorem fo71 : FnOk Tryz.prog 71 := ⟨⟨_, _, Tryz.func71, by decide, rfl⟩⟩
theorem fo72 : FnOk Tryz.prog 72 := ⟨⟨_, _, Tryz.func72, by decide, rfl⟩⟩
theorem fo73 : FnOk Tryz.prog 73 := ⟨⟨_, _, Tryz.func73, by decide, rfl⟩⟩
theorem fo74 : FnOk Tryz.prog 74 := ⟨⟨_, _, Tryz.func74, by decide, rfl⟩⟩
theorem fo75 : FnOk Tryz.prog 75 := ⟨⟨_, _, Tryz.func75, by decide, rfl⟩⟩
theorem fo76 : FnOk Tryz.prog 76 := ⟨⟨_, _, Tryz.func76, by decide, rfl⟩⟩
theorem fo77 : FnOk Tryz.prog 77 := ⟨⟨_, _, Tryz.func77, by decide, rfl⟩⟩
theorem fo78 : FnOk Tryz.prog 78 := ⟨⟨_, _, Tryz.func78, by decide, rfl⟩⟩
theorem fo89 : FnOk Tryz.prog 89 := ⟨⟨_, _, Tryz.func89, by decide, rfl⟩⟩
theorem fo90 : FnOk Tryz.prog 90 := ⟨⟨_, _, Tryz.func90, by decide, rfl⟩⟩
theorem fo91 : FnOk Tryz.prog 91 := ⟨⟨_, _, Tryz.func91, by decide, rfl⟩⟩
theorem fo92 : FnOk Tryz.prog 92 := ⟨⟨_, _, Tryz.func92, by decide, rfl⟩⟩
theorem fo93 : FnOk Tryz.prog 93 := ⟨⟨_, _, Tryz.func93, by decide, rfl⟩⟩
theorem fo94 : FnOk Tryz.prog 94 := ⟨⟨_, _, Tryz.func94, by decide, rfl⟩⟩
theorem fo95 : FnOk Tryz.prog 95 := ⟨⟨_, _, Tryz.func95, by decide, rfl⟩⟩
theorem fo96 : FnOk Tryz.prog 96 := ⟨⟨_, _, Tryz.func96, by decide, rfl⟩⟩
theorem fo97 : FnOk Tryz.prog 97 := ⟨⟨_, _, Tryz.func97, by decide, rfl⟩⟩
theorem fo98 : FnOk Tryz.prog 98 := ⟨⟨_, _, Tryz.func98, by decide, rfl⟩⟩
theorem fo103 : FnOk Tryz.prog 103 := ⟨⟨_, _, Tryz.func103, by decide, rfl⟩⟩
theorem fo104 : FnOk Tryz.prog 104 := ⟨⟨_, _, Tryz.func104, by decide, rfl⟩⟩
theorem fo105 : FnOk Tryz.prog 105 := ⟨⟨_, _, Tryz.func105, by decide, rfl⟩⟩
theorem fo106 : FnOk Tryz.prog 106 := ⟨⟨_, _, Tryz.func106, by decide, rfl⟩⟩
theorem fo107 : FnOk Tryz.prog 107 := ⟨⟨_, _, Tryz.func107, by decide, rfl⟩⟩
theorem fo108 : FnOk Tryz.prog 108 := ⟨⟨_, _, Tryz.func108, by decide, rfl⟩⟩
theorem fo109 : FnOk Tryz.prog 109 := ⟨⟨_, _, Tryz.func109, by decide, rfl⟩⟩
theorem fo110 : FnOk Tryz.prog 110 := ⟨⟨_, _, Tryz.func110, by decide, rfl⟩⟩
theorem fo112 : FnOk Tryz.prog 112 := ⟨⟨_, _, Tryz.func112, by decide, rfl⟩⟩
theorem fo113 : FnOk Tryz.prog 113 := ⟨⟨_, _, Tryz.func113, by decide, rfl⟩⟩
theorem fo114 : FnOk Tryz.prog 114 := ⟨⟨_, _, Tryz.func114, by decide, rfl⟩⟩
theorem fo115 : FnOk Tryz.prog 115 := ⟨⟨_, _, Tryz.func115, by decide, rfl⟩⟩
theorem fo116 : FnOk Tryz.prog 116 := ⟨⟨_, _, Tryz.func116, by decide, rfl⟩⟩
theorem fo117 : FnOk Tryz.prog 117 := ⟨⟨_, _, Tryz.func117, by decide, rfl⟩⟩
theorem fo118 : FnOk Tryz.prog 118 := ⟨⟨_, _, Tryz.func118, by decide, rfl⟩⟩
theorem fo119 : FnOk Tryz.prog 119 := ⟨⟨_, _, Tryz.func119, by decide, rfl⟩⟩
theorem fo120 : FnOk Tryz.prog 120 := ⟨⟨_, _, Tryz.func120, by decide, rfl⟩⟩
theorem fo121 : FnOk Tryz.prog 121 := ⟨⟨_, _, Tryz.func121, by decide, rfl⟩⟩
theorem fo122 : FnOk Tryz.prog 122 := ⟨⟨_, _, Tryz.func122, by decide, rfl⟩⟩
theorem fo123 : FnOk Tryz.prog 123 := ⟨⟨_, _, Tryz.func123, by decide, rfl⟩⟩
theorem fo125 : FnOk Tryz.prog 125 := ⟨⟨_, _, Tryz.func125, by decide, rfl⟩⟩
theorem fo126 : FnOk Tryz.prog 126 := ⟨⟨_, _, Tryz.func126, by decide, rfl⟩⟩
theorem bd29 : BuildOk Tryz.prog 29 [.int .u8 0, .string ⟨#[]⟩, .int .i64 0, .slice none 0 0] [(0, 1), (1, 1), (2, 1), (3, 1)] := by
  intro parts cells w h
  unfold Instr.build
  simp only [Sem.run_bind, run_zeroValue' tK (show tb.get 29 = _ from rfl), Result.andThen_ok, run_underlying Tryz.underlying29]
  simp [Rw.run_sizeOf tK (show tb.get 3 = _ from rfl), Rw.run_sizeOf tK (show tb.get 9 = _ from rfl), Rw.run_sizeOf tK (show tb.get 26 = _ from rfl), Rw.run_sizeOf tK (show tb.get 27 = _ from rfl), h]
theorem bd55 : BuildOk Tryz.prog 55 [.map none, .map none] [(0, 1), (1, 1)] := by
  intro parts cells w h
  unfold Instr.build
  simp only [Sem.run_bind, run_zeroValue' tK (show tb.get 55 = _ from rfl), Result.andThen_ok, run_underlying Tryz.underlying55]
  simp [Rw.run_sizeOf tK (show tb.get 38 = _ from rfl), Rw.run_sizeOf tK (show tb.get 53 = _ from rfl), h]
theorem bd88 : BuildOk Tryz.prog 88 [.bool false, .bool false, .int .i64 0, .int .i64 0] [(0, 1), (1, 1), (2, 1), (3, 1)] := by
  intro parts cells w h
  unfold Instr.build
  simp only [Sem.run_bind, run_zeroValue' tK (show tb.get 88 = _ from rfl), Result.andThen_ok, run_underlying Tryz.underlying88]
  simp [Rw.run_sizeOf tK (show tb.get 3 = _ from rfl), Rw.run_sizeOf tK (show tb.get 4 = _ from rfl), h]
theorem bd125 : BuildOk Tryz.prog 125 [.string ⟨#[]⟩, .int .u8 0, .string ⟨#[]⟩, .int .i64 0, .slice none 0 0] [(0, 1), (1, 4)] := by
  intro parts cells w h
  unfold Instr.build
  simp only [Sem.run_bind, run_zeroValue' tK (show tb.get 125 = _ from rfl), Result.andThen_ok, run_underlying Tryz.underlying125]
  simp [Rw.run_sizeOf tK (show tb.get 9 = _ from rfl), Rw.run_sizeOf tK (show tb.get 29 = _ from rfl), h]
end Go.Proofs.YtpoahmeacjggfaaGreat
namespace Rw
open Go Go.RowKit
section
variable {P : Program} {ops : Array Oper} {Q : Exit → Act → World → Prop}
def closedL (ops : Array Oper) (listed : Array Bool) : Prop :=
  ∀ j o, ops[j]? = some o → listed.getD j false = true → ∀ e ∈ o.after, Region.binds .any e = true → listed.getD e.on false = true
def edgeTo (ops : Array Oper) (k : Nat) (D : List Nat) : Bool :=
  match ops[k]? with
  | some o => o.after.any fun e => Region.binds .any e && D.contains e.on
  | none => false
/-- What waits for number i, and what waits for that, and so on. -/
def descs (ops : Array Oper) (i : Nat) : List Nat :=
  (List.range ops.size).foldl (fun D k => if k == i || edgeTo ops k D then k :: D else D) []
theorem descs_spec (i : Nat) {listed : Array Bool} (hc : closedL ops listed) : ∀ k ∈ descs ops i, listed.getD k false = true → listed.getD i false = true := by
  have key : ∀ (l : List Nat) (D : List Nat), (∀ k ∈ D, listed.getD k false = true → listed.getD i false = true) →
      ∀ k ∈ l.foldl (fun D k => if k == i || edgeTo ops k D then k :: D else D) D, listed.getD k false = true → listed.getD i false = true := by
    intro l
    induction l with
    | nil => intro D h; simpa using h
    | cons x l ih =>
      intro D h
      simp only [List.foldl_cons]
      refine ih _ ?_
      split
      · rename_i hx
        intro k hk hl
        rcases List.mem_cons.1 hk with rfl | hk
        · simp only [Bool.or_eq_true, beq_iff_eq] at hx
          rcases hx with rfl | hx
          · exact hl
          · unfold edgeTo at hx
            split at hx
            · rename_i o ho
              simp only [Array.any_eq_true', Bool.and_eq_true, List.contains_iff_mem] at hx
              obtain ⟨e, he, hb, hm⟩ := hx
              exact h _ hm (hc _ o ho hl e he hb)
            · cases hx
        · exact h k hk hl
      · exact h
  exact key _ [] (by simp)
/-- All that has come up is waited for. -/
def bar (ops : Array Oper) (listed : Array Bool) (j : Nat) : Bool :=
  (List.range ops.size).all fun i => !listed.getD i false || edgeTo ops j (descs ops i)
def wpB (P : Program) (ops : Array Oper) (Q : Exit → Act → World → Prop) : (World → Prop) → Nat → Array Bool → Act → World → Prop
  | _, 0, listed, a, w => Region.ready .any ops listed = [] ∧ Q .normal a w
  | S, fuel + 1, listed, a, w =>
    (Region.ready .any ops listed = [] → Q .normal a w) ∧
    ∀ i ∈ Region.ready .any ops listed, wpOp P ops Q i (fun a' w' => ∃ S', ((S w' ∧ S' = S) ∨ bar ops listed i = true) ∧ wpB P ops Q S' fuel (listed.setIfInBounds i true) a' w') a w
variable {S : World → Prop}
theorem wpAny_of_B : ∀ (fuel : Nat) (S : World → Prop) (listed : Array Bool) (a : Act) (w : World), wpB P ops Q S fuel listed a w → wpAny P .any ops Q fuel listed a w
  | 0, _, _, _, _, h => h
  | fuel + 1, _, _, _, _, h => ⟨h.1, fun i hi => wpOp_mono (fun a' w' h' => let ⟨S', _, h2⟩ := h'; wpAny_of_B fuel S' _ a' w' h2) (h.2 i hi)⟩
theorem getD_set {listed : Array Bool} {i j : Nat} : (listed.setIfInBounds i true).getD j false = true ↔ ((i = j ∧ i < listed.size) ∨ listed.getD j false = true) := by
  by_cases h : i = j
  · subst h
    rcases Nat.lt_or_ge i listed.size with h' | h'
    · simp [h']
    · simp [Nat.not_lt.2 h']
  · rw [getD_set_ne false h]; simp [h]
theorem closedL_set {listed : Array Bool} {j : Nat} (hc : closedL ops listed) (hr : j ∈ Region.ready .any ops listed) : closedL ops (listed.setIfInBounds j true) := by
  intro k o ho hk e he hb
  rw [getD_set] at hk ⊢
  rcases hk with ⟨rfl, _⟩ | hk
  · obtain ⟨_, o', ho', hall⟩ := mem_ready.1 hr
    rw [ho] at ho'
    cases ho'
    exact .inr (hall e he hb)
  · exact .inr (hc k o ho hk e he hb)
theorem size_lt_of_ready {listed : Array Bool} {i : Nat} (h : i ∈ Region.ready .any ops listed) : i < listed.size := by
  have h0 := (mem_ready.1 h).1
  rcases Nat.lt_or_ge i listed.size with h' | h'
  · exact h'
  · simp [Array.getElem?_eq_none h'] at h0
theorem wpB_first {i : Nat} {oi : Oper} {v : Value} (hi : ops[i]? = some oi) (hsel : ∀ (j : Nat) (o : Oper) cs b, ops[j]? = some o → o.op ≠ .select cs b)
    (hQ : ∀ c a w, Q (.panic c) (a.put oi.dst v) w → Q (.panic c) a w) :
    ∀ (fuel : Nat) (listed : Array Bool) (a : Act) (w : World),
      (∀ j oj, ops[j]? = some oj → j ≠ i → listed.getD j true = false → (∀ e ∈ oj.after, Region.binds .any e = true → e.on ≠ i) → oi.apart ops oj = true) →
      i ∈ Region.ready .any ops listed → closedL ops listed → YieldsIf P ops S oi v a → S w →
      wpB P ops Q S fuel (listed.setIfInBounds i true) (a.put oi.dst v) w → wpB P ops Q S (fuel + 1) listed a w := by
  intro fuel
  induction fuel with
  | zero =>
    intro listed a w _ hr _ hy hS H
    refine ⟨fun h => (by rw [h] at hr; cases hr), fun j hj => ?_⟩
    by_cases hji : j = i
    · subst hji; exact hy.wpOp hi hS ⟨S, .inl ⟨hS, rfl⟩, H⟩
    · have := ready_mono hj hji
      rw [H.1] at this
      cases this
  | succ fuel ih =>
    intro listed a w hfree hr hcl hy hS H
    refine ⟨fun h => (by rw [h] at hr; cases hr), fun j hj => ?_⟩
    by_cases hji : j = i
    · subst hji; exact hy.wpOp hi hS ⟨S, .inl ⟨hS, rfl⟩, H⟩
    · have h1 := H.2 j (ready_mono hj hji)
      obtain ⟨hjun, oj, hoj, hall⟩ := mem_ready.1 hj
      have hiun : ¬ listed.getD i false = true := by
        have h0 := (mem_ready.1 hr).1
        have hlt := size_lt_of_ready hr
        simp [hlt] at h0 ⊢
        exact h0
      have hnot : ∀ e ∈ oj.after, Region.binds .any e = true → e.on ≠ i := fun e he hb heq => hiun (heq ▸ hall e he hb)
      -- j isn't one that waits for i
      have hbar : ¬ bar ops (listed.setIfInBounds i true) j = true := by
        intro hb
        unfold bar at hb
        rw [List.all_eq_true] at hb
        have h2 := hb i (List.mem_range.2 (Array.getElem?_eq_some_iff.1 hi).1)
        have h3 : (listed.setIfInBounds i true).getD i false = true := getD_set.2 (.inl ⟨rfl, size_lt_of_ready hr⟩)
        rw [h3] at h2
        simp only [Bool.not_true, Bool.false_or] at h2
        unfold edgeTo at h2
        rw [hoj] at h2
        simp only [Array.any_eq_true', Bool.and_eq_true, List.contains_iff_mem] at h2
        obtain ⟨e, he, hbd, hm⟩ := h2
        exact hiun (descs_spec i hcl _ hm (hall e he hbd))
      have h2 := wpOp_putIf hoj (hfree j oj hoj hji hjun hnot) (fun cs b => hsel i oi cs b hi) (fun cs b => hsel j oj cs b hoj) hQ hy h1
      have hfree' : ∀ k ok, ops[k]? = some ok → k ≠ i → (listed.setIfInBounds j true).getD k true = false →
          (∀ e ∈ ok.after, Region.binds .any e = true → e.on ≠ i) → oi.apart ops ok = true := fun k ok hk hki hun hno => by
        refine hfree k ok hk hki ?_ hno
        by_cases hjk : j = k
        · subst hjk; exact hjun
        · rw [getD_set_ne true hjk] at hun; exact hun
      refine wpOp_mono (fun a' w' h3 => ?_) h2
      obtain ⟨h3a, S', h3b, h3c⟩ := h3
      obtain ⟨hS', rfl⟩ := h3b.resolve_right hbar
      refine ⟨_, .inl ⟨hS', rfl⟩, ih (listed.setIfInBounds j true) a' w' hfree' (ready_mono hr (Ne.symm hji)) (closedL_set hcl hj) h3a hS' ?_⟩
      rw [Array.setIfInBounds_comm _ _ hji]
      exact h3c
end
/-! ## By slots and values -/
def lst (n : Nat) (l : List Nat) : Array Bool := l.foldl (fun a i => a.setIfInBounds i true) (Array.replicate n false)
theorem lst_snoc (n : Nat) (l : List Nat) (i : Nat) : (lst n l).setIfInBounds i true = lst n (l ++ [i]) := by simp [lst]
def closedB (ops : Array Oper) (listed : Array Bool) : Bool :=
  (List.range ops.size).all fun j => !listed.getD j false || match ops[j]? with
    | some o => o.after.all fun e => !Region.binds .any e || listed.getD e.on false
    | none => true
theorem closedB_spec {ops : Array Oper} {listed : Array Bool} (h : closedB ops listed = true) : closedL ops listed := by
  intro j o ho hj e he hb
  unfold closedB at h
  rw [List.all_eq_true] at h
  have := h j (List.mem_range.2 (Array.getElem?_eq_some_iff.1 ho).1)
  simp only [hj, ho, Bool.not_true, Bool.false_or, Array.all_eq_true', Bool.or_eq_true, Bool.not_eq_true'] at this
  exact (this e he).resolve_left (by simp [hb])
/-- May number i be taken first? -/
def okTake (ops : Array Oper) (l : List Nat) (i : Nat) : Bool :=
  (Region.ready .any ops (lst ops.size l)).contains i && Region.free .any ops (lst ops.size l) i && closedB ops (lst ops.size l) && Region.noSelect ops
def okOne (ops : Array Oper) (l : List Nat) (i : Nat) : Bool := Region.ready .any ops (lst ops.size l) == [i]
def okBar (ops : Array Oper) (l : List Nat) (i : Nat) : Bool := bar ops (lst ops.size l) i
def okEnd (ops : Array Oper) (l : List Nat) : Bool := (Region.ready .any ops (lst ops.size l)).isEmpty
section
variable (P : Program) (n : Nat)
def WA (ops : Array Oper) (Q : Exit → Act → World → Prop) (S : World → Prop) (G : Env) (w : World) (fuel : Nat) (l : List Nat) : Prop :=
  ∀ a, Models n a G → wpB P ops Q S fuel (lst ops.size l) a w
end
section
variable {P : Program} {T : Tab} {n : Nat} {ops : Array Oper} {Q : Exit → Act → World → Prop} {S : World → Prop} {G : Env} {w : World} {l : List Nat} {fuel : Nat}
theorem a_beg {id : Nat} {ol : List Oper} (S : World → World → Prop) (hm : P.follows .mixedOrders = true) (h : ∀ w', Ext w w' → WA P n ol.toArray Q (S w') G w' ol.toArray.size []) : WC P n Q G w (.region id ol.toArray true) :=
  fun a ha => wp_region_any hm (wpAny_of_B _ (S w.drew) _ _ _ (by simpa [lst] using h w.drew (ext_drew w) a ha))
theorem a_end (hr : okEnd ops l = true) (h : WX n Q G w .normal) : WA P n ops Q S G w fuel l := by
  intro a ha
  have hr' : Region.ready .any ops (lst ops.size l) = [] := by simpa [okEnd] using hr
  cases fuel with
  | zero => exact ⟨hr', h a ha⟩
  | succ f => exact ⟨fun _ => h a ha, fun i hi => (by rw [hr'] at hi; cases hi)⟩
theorem a_one {o : Oper} (i : Nat) (hi : ops[i]? = some o) (hr : okOne ops l i = true) (h : OW P n ops Q G w o (fun G' w' => S w' ∧ WA P n ops Q S G' w' fuel (l ++ [i]))) : WA P n ops Q S G w (fuel + 1) l := by
  intro a ha
  have hr' : Region.ready .any ops (lst ops.size l) = [i] := by simpa [okOne] using hr
  refine ⟨fun h0 => (by rw [hr'] at h0; cases h0), fun j hj => ?_⟩
  rw [hr'] at hj
  obtain rfl : j = i := by simpa using hj
  have := h a ha (fun a' w' => S w' ∧ wpB P ops Q S fuel (lst ops.size (l ++ [j])) a' w') (fun G' w' hk a' ha' => ⟨hk.1, hk.2 a' ha'⟩)
  unfold wpOp
  simp only [hi, lst_snoc]
  split
  · rename_i hw; rw [if_pos hw] at this; exact .inl (Oper.wp_mono (fun _ _ h => ⟨S, .inl ⟨h.1, rfl⟩, h.2⟩) this)
  · rename_i hw; rw [if_neg hw] at this; exact ⟨S, .inl ⟨this.1, rfl⟩, this.2⟩
theorem a_bar {o : Oper} (i : Nat) (hi : ops[i]? = some o) (hr : okOne ops l i = true) (hb : okBar ops l i = true) (h : OW P n ops Q G w o (fun G' w' => WA P n ops Q S G' w' fuel (l ++ [i]))) : WA P n ops Q S G w (fuel + 1) l := by
  intro a ha
  have hr' : Region.ready .any ops (lst ops.size l) = [i] := by simpa [okOne] using hr
  refine ⟨fun h0 => (by rw [hr'] at h0; cases h0), fun j hj => ?_⟩
  rw [hr'] at hj
  obtain rfl : j = i := by simpa using hj
  have := h a ha (fun a' w' => wpB P ops Q S fuel (lst ops.size (l ++ [j])) a' w') (fun G' w' hk a' ha' => hk a' ha')
  unfold wpOp
  simp only [hi, lst_snoc]
  split
  · rename_i hw; rw [if_pos hw] at this; exact .inl (Oper.wp_mono (fun _ _ h => ⟨S, .inr hb, h⟩) this)
  · rename_i hw; rw [if_neg hw] at this; exact ⟨S, .inr hb, this⟩
theorem a_barS {o : Oper} (S' : World → World → Prop) (i : Nat) (hi : ops[i]? = some o) (hr : okOne ops l i = true) (hb : okBar ops l i = true) (h : OW P n ops Q G w o (fun G' w' => WA P n ops Q (S' w') G' w' fuel (l ++ [i]))) : WA P n ops Q S G w (fuel + 1) l := by
  intro a ha
  have hr' : Region.ready .any ops (lst ops.size l) = [i] := by simpa [okOne] using hr
  refine ⟨fun h0 => (by rw [hr'] at h0; cases h0), fun j hj => ?_⟩
  rw [hr'] at hj
  obtain rfl : j = i := by simpa using hj
  have := h a ha (fun a' w' => wpB P ops Q (S' w') fuel (lst ops.size (l ++ [j])) a' w') (fun G' w' hk a' ha' => hk a' ha')
  unfold wpOp
  simp only [hi, lst_snoc]
  split
  · rename_i hw; rw [if_pos hw] at this; exact .inl (Oper.wp_mono (fun _ w2 h => ⟨S' w2, .inr hb, h⟩) this)
  · rename_i hw; rw [if_neg hw] at this; exact ⟨S' _, .inr hb, this⟩
/-- Each that may come up does. -/
def AllA (P : Program) (n : Nat) (ops : Array Oper) (Q : Exit → Act → World → Prop) (S : World → Prop) (G : Env) (w : World) (fuel : Nat) (l : List Nat) : List Nat → Prop
  | [] => True
  | i :: r => (∃ o, ops[i]? = some o ∧ OW P n ops Q G w o (fun G' w' => S w' ∧ WA P n ops Q S G' w' fuel (l ++ [i]))) ∧ AllA P n ops Q S G w fuel l r
theorem a_all (rs : List Nat) (hr : (Region.ready .any ops (lst ops.size l) == rs) = true) (hne : rs.isEmpty = false) (h : AllA P n ops Q S G w fuel l rs) : WA P n ops Q S G w (fuel + 1) l := by
  intro a ha
  have hr' : Region.ready .any ops (lst ops.size l) = rs := by simpa using hr
  refine ⟨fun h0 => (by rw [hr'] at h0; rw [h0] at hne; cases hne), fun j hj => ?_⟩
  rw [hr'] at hj
  have : ∃ o, ops[j]? = some o ∧ OW P n ops Q G w o (fun G' w' => S w' ∧ WA P n ops Q S G' w' fuel (l ++ [j])) := by
    clear hr hr' hne
    induction rs with
    | nil => cases hj
    | cons x r ih =>
      rcases List.mem_cons.1 hj with rfl | hj
      · exact h.1
      · exact ih h.2 hj
  obtain ⟨o, hi, h⟩ := this
  have := h a ha (fun a' w' => S w' ∧ wpB P ops Q S fuel (lst ops.size (l ++ [j])) a' w') (fun G' w' hk a' ha' => ⟨hk.1, hk.2 a' ha'⟩)
  unfold wpOp
  simp only [hi, lst_snoc]
  split
  · rename_i hw; rw [if_pos hw] at this; exact .inl (Oper.wp_mono (fun _ _ h => ⟨S, .inl ⟨h.1, rfl⟩, h.2⟩) this)
  · rename_i hw; rw [if_neg hw] at this; exact ⟨S, .inl ⟨this.1, rfl⟩, this.2⟩
theorem all_cons {i : Nat} {r : List Nat} {o : Oper} (hi : ops[i]? = some o) (h : OW P n ops Q G w o (fun G' w' => S w' ∧ WA P n ops Q S G' w' fuel (l ++ [i]))) (hr : AllA P n ops Q S G w fuel l r) : AllA P n ops Q S G w fuel l (i :: r) := ⟨⟨o, hi, h⟩, hr⟩
theorem all_nil : AllA P n ops Q S G w fuel l [] := trivial
theorem a_take {o : Oper} {d : Nat} {v : Value} (i : Nat) (hi : ops[i]? = some o) (hd : o.dst = some d) (hdn : Nat.blt d n = true) (hr : okTake ops l i = true)
    (hQ : ∀ c a w, Q (.panic c) (a.put (some d) v) w → Q (.panic c) a w) (hy : ∀ a, Models n a G → YieldsIf P ops S o v a) (hS : S w) (h : WA P n ops Q S ((d, v) :: G) w fuel (l ++ [i])) : WA P n ops Q S G w (fuel + 1) l := by
  intro a ha
  simp only [okTake, Bool.and_eq_true, List.contains_iff_mem] at hr
  obtain ⟨⟨⟨h1, h2⟩, h3⟩, h4⟩ := hr
  refine wpB_first hi (Region.noSelect_spec h4) (by rw [hd]; exact hQ) fuel _ a w (Region.free_spec hi h2) h1 (closedB_spec h3) (hy a ha) hS ?_
  rw [lst_snoc, hd]
  exact h _ (ha.put hdn v)
theorem a_split (t : Nat) (b : Bool) (hc : Env.get G t = some (.bool b)) (ht : b = true → WA P n ops Q S ((t, .bool true) :: G) w fuel l) (hf : b = false → WA P n ops Q S ((t, .bool false) :: G) w fuel l) : WA P n ops Q S G w fuel l := by
  intro a ha
  cases hb : b with
  | true => exact ht hb a (ha.write (hb ▸ hc))
  | false => exact hf hb a (ha.write (hb ▸ hc))
theorem a_splitP (t : Nat) (p : Prop) [Decidable p] (hc : Env.get G t = some (.bool (decide p))) (ht : p → WA P n ops Q S ((t, .bool true) :: G) w fuel l) (hf : ¬ p → WA P n ops Q S ((t, .bool false) :: G) w fuel l) : WA P n ops Q S G w fuel l :=
  a_split t _ hc (fun h => ht (of_decide_eq_true h)) (fun h => hf (of_decide_eq_false h))
theorem a_splitB (t : Nat) (b : Bool) (hc : Env.get G t = some (.bool (!b))) (ht : b = false → WA P n ops Q S ((t, .bool true) :: G) w fuel l) (hf : b = true → WA P n ops Q S ((t, .bool false) :: G) w fuel l) : WA P n ops Q S G w fuel l :=
  a_split t _ hc (fun h => ht (by simpa using h)) (fun h => hf (by simpa using h))
theorem a_p {op : Op} {d ty : Nat} {pos : String} {af : Array Go.Edge} {g : Option (Nat × Bool)} {v : Value} (i : Nat) (hT : TabOk P T) (hi : ops[i]? = some ⟨some d, op, ty, pos, af, g⟩) (hv : pureS T G op = some v) (hg : gd ops G ⟨some d, op, ty, pos, af, g⟩ = some true)
    (hdn : Nat.blt d n = true) (hr : okTake ops l i = true) (hQ : ∀ c a w, Q (.panic c) (a.put (some d) v) w → Q (.panic c) a w) (hS : S w) (h : WA P n ops Q S ((d, v) :: G) w fuel (l ++ [i])) : WA P n ops Q S G w (fuel + 1) l :=
  a_take i hi rfl hdn hr hQ (fun _ ha => .inl ⟨wanted_of_gd ha hg, fun w' _ => pureS_run hT ha hv w'⟩) hS h
theorem aK {op : Op} {d ty : Nat} {pos : String} {af : Array Go.Edge} {g : Option (Nat × Bool)} (i : Nat) (hi : ops[i]? = some ⟨some d, op, ty, pos, af, g⟩) (hg : gd ops G ⟨some d, op, ty, pos, af, g⟩ = some false)
    (hdn : Nat.blt d n = true) (hr : okTake ops l i = true) (hQ : ∀ c a w, Q (.panic c) (a.put (some d) undef) w → Q (.panic c) a w) (hS : S w) (h : WA P n ops Q S ((d, undef) :: G) w fuel (l ++ [i])) : WA P n ops Q S G w (fuel + 1) l :=
  a_take i hi rfl hdn hr hQ (fun _ ha => .inr ⟨wanted_of_gd ha hg, rfl⟩) hS h
theorem a_q {o : Oper} {d : Nat} {v : Value} (i : Nat) (hi : ops[i]? = some o) (hd : o.dst = some d) (hg : gd ops G o = some true) (hdn : Nat.blt d n = true) (hr : okTake ops l i = true)
    (hQ : ∀ c a w, Q (.panic c) (a.put (some d) v) w → Q (.panic c) a w) (hy : ∀ a, Models n a G → ∀ w, S w → (execOp a.eval o).run P w = .ok (.value v) w) (hS : S w) (h : WA P n ops Q S ((d, v) :: G) w fuel (l ++ [i])) : WA P n ops Q S G w (fuel + 1) l :=
  a_take i hi hd hdn hr hQ (fun a ha => .inl ⟨wanted_of_gd ha hg, hy a ha⟩) hS h
theorem run_ld {t : TypeId} {x : Operand} {v : Value} {b o : Nat} {ti : TI} {d : Option Nat} {ty : Nat} {pos : String} {af : Array Go.Edge} {g : Option (Nat × Bool)} (hT : TabOk P T) (hc : w.cell? ⟨b, o, none⟩ = some v) (hx : Env.ev G x = some (.pointer (some ⟨b, o, none⟩))) (ht : T.get t = some ti) (hta : ti.d.agg = false)
    {a : Act} (ha : Models n a G) : (execOp a.eval ⟨d, .load t x, ty, pos, af, g⟩).run P w = .ok (.value v) w := by
  simp [execOp, ha.ev hx, Instr.loadAt, Instr.sureAddr, loadVar, run_isAgg hT ht, hta, hc]
theorem run_lds {t : TypeId} {x : Operand} {cs : List Value} {b o : Nat} {ti : TI} {d : Option Nat} {ty : Nat} {pos : String} {af : Array Go.Edge} {g : Option (Nat × Bool)} (hT : TabOk P T) (hc : ∀ j v, cs[j]? = some v → w.cell? ⟨b, o + j, none⟩ = some v) (hx : Env.ev G x = some (.pointer (some ⟨b, o, none⟩))) (ht : T.get t = some ti) (hta : ti.d.agg = true)
    (hl : cs.length = ti.size) {a : Act} (ha : Models n a G) : (execOp a.eval ⟨d, .load t x, ty, pos, af, g⟩).run P w = .ok (.value (.agg cs.toArray)) w := by
  have hlc : (loadCells ⟨b, o, none⟩ ti.size).run P w = .ok cs.toArray w := by
    rw [← hl]
    exact run_loadCells_list (P := P) w ⟨b, o, none⟩ cs (fun j v hv => by rw [addr_add]; exact hc j v hv)
  simp [execOp, ha.ev hx, Instr.loadAt, Instr.sureAddr, loadVar, run_isAgg hT ht, hta, run_sizeOf hT ht, hlc]
theorem a_ld {t : TypeId} {x : Operand} {v : Value} {b o : Nat} {ti : TI} {d ty : Nat} {pos : String} {af : Array Go.Edge} {g : Option (Nat × Bool)} (i : Nat) (hT : TabOk P T) (hc : ∀ w, S w → w.cell? ⟨b, o, none⟩ = some v) (hi : ops[i]? = some ⟨some d, .load t x, ty, pos, af, g⟩) (hx : Env.ev G x = some (.pointer (some ⟨b, o, none⟩))) (ht : T.get t = some ti) (hta : ti.d.agg = false)
    (hg : gd ops G ⟨some d, .load t x, ty, pos, af, g⟩ = some true) (hdn : Nat.blt d n = true) (hr : okTake ops l i = true) (hQ : ∀ c a w, Q (.panic c) (a.put (some d) v) w → Q (.panic c) a w) (hS : S w)
    (h : WA P n ops Q S ((d, v) :: G) w fuel (l ++ [i])) : WA P n ops Q S G w (fuel + 1) l :=
  a_q i hi rfl hg hdn hr hQ (fun _ ha _ hs => run_ld hT (hc _ hs) hx ht hta ha) hS h
theorem a_lds {t : TypeId} {x : Operand} {cs : List Value} {b o : Nat} {ti : TI} {d ty : Nat} {pos : String} {af : Array Go.Edge} {g : Option (Nat × Bool)} (i : Nat) (hT : TabOk P T) (hc : ∀ w, S w → ∀ j v, cs[j]? = some v → w.cell? ⟨b, o + j, none⟩ = some v) (hi : ops[i]? = some ⟨some d, .load t x, ty, pos, af, g⟩) (hx : Env.ev G x = some (.pointer (some ⟨b, o, none⟩))) (ht : T.get t = some ti) (hta : ti.d.agg = true) (hl : cs.length = ti.size)
    (hg : gd ops G ⟨some d, .load t x, ty, pos, af, g⟩ = some true) (hdn : Nat.blt d n = true) (hr : okTake ops l i = true) (hQ : ∀ c a w, Q (.panic c) (a.put (some d) (.agg cs.toArray)) w → Q (.panic c) a w) (hS : S w)
    (h : WA P n ops Q S ((d, .agg cs.toArray) :: G) w fuel (l ++ [i])) : WA P n ops Q S G w (fuel + 1) l :=
  a_q i hi rfl hg hdn hr hQ (fun _ ha _ hs => run_lds hT (hc _ hs) hx ht hta hl ha) hS h
theorem a_ixS {α : Type} [Rep α] {M : Nat → Prop} {w0 : World} {v : Value} {k : List α} {t : TypeId} {x ix : Operand} {kd : IntKind} {z : Int} {j : Nat} {y : α} {ti te : TI} {e : Nat} {d ty : Nat} {pos : String} {af : Array Go.Edge} {g : Option (Nat × Bool)} (i : Nat) (hT : TabOk P T) (hs : Sl M w0 v k) (hy : k[j]? = some y) (hi : ops[i]? = some ⟨some d, .indexAddr t x ix, ty, pos, af, g⟩)
    (hx : Env.ev G x = some v) (hix : Env.ev G ix = some (.int kd z)) (hj : z = (j : Int)) (ht : T.get t = some ti) (htd : ti.d = .sl e) (hte : T.get e = some te) (hsz : te.size = Rep.sz α)
    (hg : gd ops G ⟨some d, .indexAddr t x ix, ty, pos, af, g⟩ = some true) (hdn : Nat.blt d n = true) (hr : okTake ops l i = true) (hQ : ∀ v c a w, Q (.panic c) (a.put (some d) v) w → Q (.panic c) a w) (hS : S w)
    (h : ∀ b o u, Rep.R M w0 u y → At M w0 b o u.cells.toList → WA P n ops Q S ((d, .pointer (some ⟨b, o, none⟩)) :: G) w fuel (l ++ [i])) : WA P n ops Q S G w (fuel + 1) l := by
  obtain ⟨a, c, rfl, _, _, he⟩ := hs
  have hlt : j < k.length := (List.getElem?_eq_some_iff.1 hy).1
  rcases he with he | ⟨b, off, ha, hel⟩
  · subst he; simp at hlt
  · subst ha
    obtain ⟨u, h1, h2⟩ := hel j y hy
    have hd := (hT t _ ht).d
    rw [htd] at hd
    simp only [TD.Ok] at hd
    subst hj
    have hb : (0 : Int) ≤ (j : Int) ∧ (j : Int) < (k.length : Int) := by omega
    refine a_q (v := .pointer (some ⟨b, off + j * te.size, none⟩)) i hi rfl hg hdn hr (hQ _) (fun a' ha' w' _ => ?_) hS (h b _ u h1 (by rw [hsz]; exact h2))
    simp [execOp, ha'.ev hx, ha'.ev hix, Instr.indexAt, asIntOf, run_underlying hd, hb, run_sizeOf hT hte, addr_add]
    intro hge
    omega
theorem a_si {t : TypeId} {x ix : Operand} {s : ByteArray} {k : IntKind} {z : Int} {j : Nat} {c : UInt8} {ti : TI} {d ty : Nat} {pos : String} {af : Array Go.Edge} {g : Option (Nat × Bool)} (i : Nat) (hT : TabOk P T) (hc : s.data[j]? = some c) (hi : ops[i]? = some ⟨some d, .index t x ix, ty, pos, af, g⟩)
    (hx : Env.ev G x = some (.string s)) (hix : Env.ev G ix = some (.int k z)) (hj : z = (j : Int)) (ht : T.get t = some ti) (htd : ti.d = .str)
    (hg : gd ops G ⟨some d, .index t x ix, ty, pos, af, g⟩ = some true) (hdn : Nat.blt d n = true) (hr : okTake ops l i = true) (hQ : ∀ c' a w, Q (.panic c') (a.put (some d) (.int .u8 c.toNat)) w → Q (.panic c') a w) (hS : S w)
    (h : WA P n ops Q S ((d, .int .u8 c.toNat) :: G) w fuel (l ++ [i])) : WA P n ops Q S G w (fuel + 1) l := by
  refine a_q (v := .int .u8 c.toNat) i hi rfl hg hdn hr hQ (fun a ha w' _ => ?_) hS h
  exact run_si hT ha hx hix ht htd hj hc w'
end
/-- The first place of a number in a list; -1: none. -/
def atOf (l : List Int) (n : Int) : Int := match l.findIdx? (fun x => decide (x = n)) with
  | some i => (i : Int)
  | none => -1
theorem atOf_found {l : List Int} {n : Int} {k : Nat} (hk : k < l.length) (h : l[k] = n) (hno : ∀ j, j < k → l[j]? ≠ some n) : atOf l n = (k : Int) := by
  have : l.findIdx? (fun x => decide (x = n)) = some k := by
    rw [List.findIdx?_eq_some_iff_getElem]
    refine ⟨hk, by simpa using h, fun j hj => ?_⟩
    have := hno j hj
    rw [gE (by omega)] at this
    simpa using this
  simp [atOf, this]
theorem atOf_none {l : List Int} {n : Int} {k : Nat} (hk : l.length ≤ k) (hno : ∀ j, j < k → l[j]? ≠ some n) : atOf l n = -1 := by
  have : l.findIdx? (fun x => decide (x = n)) = none := by
    rw [List.findIdx?_eq_none_iff]
    intro x hx
    obtain ⟨j, hj, rfl⟩ := List.getElem_of_mem hx
    have := hno j (by omega)
    rw [gE hj] at this
    simpa using this
  simp [atOf, this]
theorem step_no {l : List Int} {n : Int} {k : Nat} (hno : ∀ j, j < k → l[j]? ≠ some n) (hk : k < l.length) (h : ¬ l[k] = n) : ∀ j, j < k + 1 → l[j]? ≠ some n := by
  intro j hj
  by_cases e : j = k
  · subst e; rw [gE hk]; simpa using h
  · exact hno j (by omega)
theorem inOf_at {l : List Int} {n : Int} : decide ((0 : Int) ≤ atOf l n) = decide (n ∈ l) := by
  unfold atOf
  cases h : l.findIdx? (fun x => decide (x = n)) with
  | some i =>
    have h1 := h
    rw [List.findIdx?_eq_some_iff_getElem] at h1
    obtain ⟨hi, h2, _⟩ := h1
    have : n ∈ l := by
      have h3 : l[i] = n := by simpa using h2
      rw [← h3]; exact gM hi
    simp [this]
  | none =>
    rw [List.findIdx?_eq_none_iff] at h
    have : n ∉ l := fun hm => by have := h n hm; simp at this
    simp [this]
theorem len_ne {α : Type} [DecidableEq α] {a b : List α} (h : ¬ (a.length : Int) = (b.length : Int)) : decide (a = b) = false := by
  have : a ≠ b := fun e => h (by rw [e])
  simp [this]
theorem take_succ_eq {α : Type} {a b : List α} {k : Nat} (ha : k < a.length) (hb : k < b.length) (h : a.take k = b.take k) (he : a[k] = b[k]) : a.take (k + 1) = b.take (k + 1) := by
  rw [List.take_succ_eq_append_getElem ha, List.take_succ_eq_append_getElem hb, h, he]
theorem take_ne {α : Type} [DecidableEq α] {a b : List α} {k : Nat} (ha : k < a.length) (hb : k < b.length) (he : ¬ a[k] = b[k]) : decide (a = b) = false := by
  have : a ≠ b := fun e => by subst e; exact he rfl
  simp [this]
theorem take_all {α : Type} [DecidableEq α] {a b : List α} {k : Nat} (hk : a.length ≤ k) (hl : (a.length : Int) = (b.length : Int)) (h : a.take k = b.take k) : decide (a = b) = true := by
  rw [List.take_of_length_le hk, List.take_of_length_le (by omega)] at h
  simp [h]
open Classical
/-- May it be a node? -/
def isNode (needs : List (List Int)) (i : Int) : Bool := decide (0 ≤ i ∧ i < (needs.length : Int))
theorem isNode_nat {needs : List (List Int)} {i : Int} (h : isNode needs i = true) : ∃ v : Nat, i = (v : Int) ∧ v < needs.length := by
  have h' : 0 ≤ i ∧ i < (needs.length : Int) := of_decide_eq_true h
  exact ⟨i.toNat, by omega, by omega⟩
theorem isNode_of {needs : List (List Int)} {i : Int} {v : Nat} (h : i = (v : Int)) (hv : v < needs.length) : ¬ isNode needs i = false := by
  have : isNode needs i = true := dT ⟨by omega, by omega⟩
  simp [this]
/-- u needs v. -/
def Edge (needs : List (List Int)) (u v : Nat) : Prop := ∃ l, needs[u]? = some l ∧ (v : Int) ∈ l ∧ v < needs.length
/-- u reaches v. -/
inductive Rch (needs : List (List Int)) : Nat → Nat → Prop
  | one {u v : Nat} (h : Edge needs u v) : Rch needs u v
  | more {u v x : Nat} (h : Rch needs u v) (e : Edge needs v x) : Rch needs u x
theorem Rch.lt {needs : List (List Int)} {u v : Nat} (h : Rch needs u v) : v < needs.length := by
  cases h with
  | one h => exact h.choose_spec.2.2
  | more _ e => exact e.choose_spec.2.2
/-- What a node reaches, as marks. -/
noncomputable def reachM (needs : List (List Int)) (i : Nat) : List Bool := (List.range needs.length).map fun k => decide (Rch needs i k)
/-- A walk from i under way: l what has been met, i first; m the marks; the needs of the first k of l have been gone through. -/
structure Bfs (needs : List (List Int)) (i k : Nat) (l : List Int) (m : List Bool) : Prop where
  len : m.length = needs.length
  lt : i < needs.length
  head : ∃ r, l = (i : Int) :: r ∧ r.Nodup ∧ ∀ x, x ∈ r ↔ ∃ j : Nat, x = (j : Int) ∧ m[j]? = some true
  le : k ≤ l.length
  sound : ∀ j, m[j]? = some true → Rch needs i j
  done : ∀ (p : Nat) (u : Nat), p < k → l[p]? = some (u : Int) → ∀ v, Edge needs u v → m[v]? = some true
/-- And of the next one's needs s the first p have been. -/
structure BfsIn (needs : List (List Int)) (i k : Nat) (u : Nat) (s : List Int) (p : Nat) (l : List Int) (m : List Bool) : Prop where
  base : Bfs needs i k l m
  here : l[k]? = some (u : Int)
  need : needs[u]? = some s
  le : p ≤ s.length
  part : ∀ j, j < p → ∀ v : Nat, s[j]? = some (v : Int) → v < needs.length → m[v]? = some true
theorem rep_false {n j : Nat} : ¬ (List.replicate n false)[j]? = some true := by
  rw [List.getElem?_replicate]
  split <;> simp
theorem bfs_start {needs : List (List Int)} {i : Nat} (hi : i < needs.length) : Bfs needs i 0 [(i : Int)] (List.replicate needs.length false) := by
  refine ⟨by simp, hi, ⟨[], rfl, List.nodup_nil, fun x => ?_⟩, Nat.zero_le _, fun j h => absurd h rep_false, fun p u hp => absurd hp (Nat.not_lt_zero _)⟩
  constructor
  · intro h; cases h
  · rintro ⟨j, _, h⟩; exact absurd h rep_false
theorem Bfs.node {needs : List (List Int)} {i k : Nat} {l : List Int} {m : List Bool} (h : Bfs needs i k l m) {p : Nat} {x : Int} (hx : l[p]? = some x) : ∃ u : Nat, x = (u : Int) ∧ u < needs.length := by
  obtain ⟨r, rfl, _, hr⟩ := h.head
  cases p with
  | zero => simp at hx; exact ⟨i, hx.symm, h.lt⟩
  | succ p =>
    have : x ∈ r := List.mem_of_getElem? (by simpa using hx)
    obtain ⟨j, rfl, hj⟩ := (hr x).1 this
    exact ⟨j, rfl, (h.sound j hj).lt⟩
theorem bfs_in {needs : List (List Int)} {i k : Nat} {l : List Int} {m : List Bool} (h : Bfs needs i k l m) {u : Nat} {s : List Int} (hu : l[k]? = some (u : Int)) (hs : needs[u]? = some s) : BfsIn needs i k u s 0 l m :=
  ⟨h, hu, hs, Nat.zero_le _, fun j hj => absurd hj (Nat.not_lt_zero _)⟩
theorem bfs_skip {needs : List (List Int)} {i k u p : Nat} {s l : List Int} {m : List Bool} (h : BfsIn needs i k u s p l m) (hp : p < s.length) (hno : ∀ v : Nat, s[p] = (v : Int) → v < needs.length → m[v]? = some true) : BfsIn needs i k u s (p + 1) l m :=
  ⟨h.base, h.here, h.need, by omega, fun j hj v hv hlt => by
    by_cases e : j = p
    · subst e
      rw [gE hp] at hv
      exact hno v (by simpa using hv) hlt
    · exact h.part j (by omega) v hv hlt⟩
theorem bfs_old {needs : List (List Int)} {i k u p v : Nat} {s l : List Int} {m : List Bool} (h : BfsIn needs i k u s p l m) (hp : p < s.length) (hv : s[p] = (v : Int)) (hm : m[v]? = some true) : BfsIn needs i k u s (p + 1) l m :=
  bfs_skip h hp (fun v' hv' _ => by
    have : v' = v := by omega
    subst this; exact hm)
theorem getElem?_set_of {m : List Bool} {v j : Nat} (hv : v < m.length) : (m.set v true)[j]? = some true ↔ (j = v ∨ m[j]? = some true) := by
  rw [List.getElem?_set]
  by_cases h : v = j
  · subst h; simp [hv]
  · simp only [h, if_false]
    constructor
    · exact fun e => .inr e
    · rintro (e | e)
      · exact absurd e.symm h
      · exact e
theorem bfs_new {needs : List (List Int)} {i k u p v : Nat} {s l : List Int} {m : List Bool} (h : BfsIn needs i k u s p l m) (hp : p < s.length) (hv : s[p] = (v : Int)) (hlt : v < needs.length) (hm : ¬ m[v]? = some true) :
    BfsIn needs i k u s (p + 1) (l ++ [(v : Int)]) (m.set v true) := by
  have hvl : v < m.length := by rw [h.base.len]; exact hlt
  have hedge : Edge needs u v := ⟨s, h.need, by rw [← hv]; exact gM hp, hlt⟩
  have hru : u = i ∨ m[u]? = some true := by
    obtain ⟨r, hr1, _, hr⟩ := h.base.head
    have hh := h.here
    rw [hr1] at hh
    cases k with
    | zero => simp at hh; exact .inl (by omega)
    | succ k =>
      have : (u : Int) ∈ r := List.mem_of_getElem? (by simpa using hh)
      obtain ⟨j, hj, hj2⟩ := (hr _).1 this
      have : u = j := by omega
      exact .inr (this ▸ hj2)
  have hreach : Rch needs i v := by
    rcases hru with rfl | hu
    · exact .one hedge
    · exact .more (h.base.sound u hu) hedge
  refine ⟨⟨by rw [List.length_set]; exact h.base.len, h.base.lt, ?_, ?_, ?_, ?_⟩, ?_, h.need, by omega, ?_⟩
  · obtain ⟨r, rfl, hnd, hr⟩ := h.base.head
    refine ⟨r ++ [(v : Int)], rfl, ?_, fun x => ?_⟩
    · rw [List.nodup_append]
      refine ⟨hnd, by simp, fun a ha b hb => ?_⟩
      simp at hb
      subst hb
      rintro rfl
      obtain ⟨j, hj, hj2⟩ := (hr _).1 ha
      have : v = j := by omega
      exact hm (this ▸ hj2)
    · rw [List.mem_append, hr]
      simp only [List.mem_singleton]
      constructor
      · rintro (⟨j, rfl, hj⟩ | rfl)
        · exact ⟨j, rfl, (getElem?_set_of hvl).2 (.inr hj)⟩
        · exact ⟨v, rfl, (getElem?_set_of hvl).2 (.inl rfl)⟩
      · rintro ⟨j, rfl, hj⟩
        rcases (getElem?_set_of hvl).1 hj with rfl | hj
        · exact .inr rfl
        · exact .inl ⟨j, rfl, hj⟩
  · have := h.base.le; rw [List.length_append]; omega
  · intro j hj
    rcases (getElem?_set_of hvl).1 hj with rfl | hj
    · exact hreach
    · exact h.base.sound j hj
  · intro q x hq hx y he
    refine (getElem?_set_of hvl).2 (.inr (h.base.done q x hq ?_ y he))
    rw [List.getElem?_append_left (by have := h.base.le; omega)] at hx
    exact hx
  · rw [List.getElem?_append_left (List.getElem?_eq_some_iff.1 h.here).1]; exact h.here
  · intro j hj x hx hxl
    refine (getElem?_set_of hvl).2 ?_
    by_cases e : j = p
    · subst e
      rw [gE hp, hv] at hx
      simp at hx
      exact .inl (by omega)
    · exact .inr (h.part j (by omega) x hx hxl)
theorem bfs_next {needs : List (List Int)} {i k u p : Nat} {s l : List Int} {m : List Bool} (h : BfsIn needs i k u s p l m) (hp : s.length ≤ p) : Bfs needs i (k + 1) l m := by
  refine ⟨h.base.len, h.base.lt, h.base.head, (List.getElem?_eq_some_iff.1 h.here).1, h.base.sound, fun q x hq hx v he => ?_⟩
  by_cases e : q = k
  · subst e
    have hh := h.here
    rw [hx] at hh
    have : x = u := by simp at hh; omega
    subst this
    obtain ⟨s', hs', hm, hlt⟩ := he
    rw [h.need] at hs'
    cases hs'
    obtain ⟨j, hj, hj2⟩ := List.getElem_of_mem hm
    exact h.part j (by omega) v (by rw [gE hj, hj2]) hlt
  · exact h.base.done q x (by omega) hx v he
theorem bfs_length {needs : List (List Int)} {i k : Nat} {l : List Int} {m : List Bool} (h : Bfs needs i k l m) : l.length ≤ needs.length + 1 := by
  obtain ⟨r, rfl, hnd, hr⟩ := h.head
  have hsub : r ⊆ (List.range needs.length).map fun (j : Nat) => (j : Int) := fun x hx => by
    obtain ⟨j, rfl, hj⟩ := (hr x).1 hx
    exact List.mem_map.2 ⟨j, List.mem_range.2 (h.sound j hj).lt, rfl⟩
  have := hnd.length_le_of_subset hsub
  simp at this ⊢
  omega
theorem bfs_end {needs : List (List Int)} {i k : Nat} {l : List Int} {m : List Bool} (h : Bfs needs i k l m) (hk : l.length ≤ k) : m = reachM needs i := by
  have all : ∀ u : Nat, (u = i ∨ m[u]? = some true) → ∀ v, Edge needs u v → m[v]? = some true := by
    intro u hu v he
    obtain ⟨r, rfl, _, hr⟩ := h.head
    rcases hu with rfl | hu
    · exact h.done 0 u (by simp at hk; omega) rfl v he
    · have : (u : Int) ∈ r := (hr _).2 ⟨u, rfl, hu⟩
      obtain ⟨p, hp, hp2⟩ := List.getElem_of_mem this
      refine h.done (p + 1) u (by simp at hk; omega) ?_ v he
      simp [hp, hp2]
  have complete : ∀ v, Rch needs i v → m[v]? = some true := by
    intro v hv
    induction hv with
    | one e => exact all i (.inl rfl) _ e
    | more _ e ih => exact all _ (.inr ih) _ e
  apply List.ext_getElem?
  intro j
  rcases Nat.lt_or_ge j needs.length with hj | hj
  · have e2 : (reachM needs i)[j]? = some (decide (Rch needs i j)) := by simp [reachM, hj]
    rw [e2, gE (by rw [h.len]; exact hj)]
    congr 1
    by_cases hr : Rch needs i j
    · have := complete j hr
      rw [gE (by rw [h.len]; exact hj)] at this
      simpa [hr] using this
    · simp only [hr, decide_false]
      cases hb : m[j]'(by rw [h.len]; exact hj) with
      | false => rfl
      | true => exact absurd (h.sound j (by rw [gE (by rw [h.len]; exact hj), hb])) hr
  · rw [List.getElem?_eq_none (by rw [h.len]; exact hj), List.getElem?_eq_none (by simp [reachM]; exact hj)]
open Classical
/-- Those below k that are picked, rising. -/
def pickUpto (p : Nat → Bool) (k : Nat) : List Int := ((List.range k).filter p).map fun (j : Nat) => (j : Int)
theorem pick_yes {p : Nat → Bool} {k : Nat} (h : p k = true) : pickUpto p (k + 1) = pickUpto p k ++ [(k : Int)] := by
  simp [pickUpto, List.range_succ, List.filter_append, h]
theorem pick_no {p : Nat → Bool} {k : Nat} (h : p k = false) : pickUpto p (k + 1) = pickUpto p k := by
  simp [pickUpto, List.range_succ, List.filter_append, h]
theorem pick_length (p : Nat → Bool) (k : Nat) : (pickUpto p k).length ≤ k := by
  unfold pickUpto
  rw [List.length_map]
  exact Nat.le_trans (List.length_filter_le _ _) (by simp)
noncomputable def circlesL (needs : List (List Int)) : List Int := pickUpto (fun k => decide (Rch needs k k)) needs.length
theorem reachM_get {needs : List (List Int)} {i k : Nat} (hk : k < (reachM needs i).length) : (reachM needs i)[k] = decide (Rch needs i k) := by
  simp [reachM]
theorem reachM_length (needs : List (List Int)) (i : Nat) : (reachM needs i).length = needs.length := by simp [reachM]
/-! ## The rounds -/
/-- How many marks there are. -/
def cnt (l : List Bool) : Nat := l.count true
theorem cnt_le (l : List Bool) : cnt l ≤ l.length := List.count_le_length
/-! ## few -/
open Classical
/-- Is it a node that isn't in yet? -/
def waits (needs : List (List Int)) (inn : List Bool) (x : Int) : Bool := isNode needs x && !(inn[x.toNat]?.getD true)
/-- Could it come next? -/
def cand (needs : List (List Int)) (inn : List Bool) (i : Nat) : Bool := !(inn[i]?.getD true) && !((needs[i]?.getD []).any (waits needs inn))
def nextOf (needs : List (List Int)) (inn : List Bool) : Option Nat := (List.range needs.length).find? (cand needs inn)
/-- What is in, and in which order, behind so many steps. -/
def ordS (needs : List (List Int)) : Nat → List Bool × List Int
  | 0 => (List.replicate needs.length false, [])
  | t + 1 => match nextOf needs (ordS needs t).1 with
    | some i => ((ordS needs t).1.set i true, (ordS needs t).2 ++ [(i : Int)])
    | none => ordS needs t
def orderL (needs : List (List Int)) : List Int := (ordS needs needs.length).2
theorem ordS_len (needs : List (List Int)) : ∀ t, (ordS needs t).1.length = needs.length
  | 0 => by simp [ordS]
  | t + 1 => by
    have := ordS_len needs t
    unfold ordS
    split <;> simp [this]
theorem ordS_out (needs : List (List Int)) : ∀ t, (ordS needs t).2.length ≤ t
  | 0 => by simp [ordS]
  | t + 1 => by
    have := ordS_out needs t
    unfold ordS
    split
    · simp; omega
    · omega
theorem next_first {needs : List (List Int)} {inn : List Bool} {i : Nat} (hi : i < needs.length) (h : cand needs inn i = true) (hno : ∀ j, j < i → cand needs inn j = false) : nextOf needs inn = some i := by
  unfold nextOf
  rw [List.find?_eq_some_iff_getElem]
  refine ⟨h, i, by simpa using hi, by simp, fun j hj => ?_⟩
  simp [hno j hj]
theorem next_none {needs : List (List Int)} {inn : List Bool} (hno : ∀ j, j < needs.length → cand needs inn j = false) : nextOf needs inn = none := by
  unfold nextOf
  rw [List.find?_eq_none]
  intro j hj
  rw [hno j (List.mem_range.1 hj)]; simp
theorem ordS_some {needs : List (List Int)} {t i : Nat} (h : nextOf needs (ordS needs t).1 = some i) : ordS needs (t + 1) = ((ordS needs t).1.set i true, (ordS needs t).2 ++ [(i : Int)]) := by
  conv => lhs; unfold ordS
  rw [h]
theorem ordS_none {needs : List (List Int)} {t : Nat} (h : nextOf needs (ordS needs t).1 = none) : ordS needs (t + 1) = ordS needs t := by
  conv => lhs; unfold ordS
  rw [h]
theorem ordS_stop {needs : List (List Int)} {t : Nat} (h : nextOf needs (ordS needs t).1 = none) : ∀ k, ordS needs (t + k) = ordS needs t
  | 0 => rfl
  | k + 1 => by
    have ih := ordS_stop h k
    have : nextOf needs (ordS needs (t + k)).1 = none := by rw [ih]; exact h
    rw [show t + (k + 1) = t + k + 1 by omega, ordS_none this, ih]
theorem nextOf_spec {needs : List (List Int)} {inn : List Bool} {i : Nat} (h : nextOf needs inn = some i) : i < needs.length ∧ cand needs inn i = true ∧ ∀ j, j < i → cand needs inn j = false := by
  unfold nextOf at h
  rw [List.find?_eq_some_iff_getElem] at h
  obtain ⟨h1, j, hj, hj2, h3⟩ := h
  simp at hj hj2
  subst hj2
  exact ⟨hj, h1, fun k hk => by simpa using h3 k hk⟩
theorem ordS_cnt {needs : List (List Int)} : ∀ {t : Nat}, (∀ s, s < t → nextOf needs (ordS needs s).1 ≠ none) → t ≤ cnt (ordS needs t).1
  | 0, _ => Nat.zero_le _
  | t + 1, h => by
    have ih := ordS_cnt (t := t) (fun s hs => h s (by omega))
    cases hn : nextOf needs (ordS needs t).1 with
    | none => exact absurd hn (h t (by omega))
    | some i =>
      rw [ordS_some hn]
      obtain ⟨hi, hc, _⟩ := nextOf_spec hn
      have hil : i < (ordS needs t).1.length := by rw [ordS_len]; exact hi
      have hf : (ordS needs t).1[i] = false := by
        unfold cand at hc
        rw [gE hil] at hc
        simp at hc
        exact hc.1
      have : cnt ((ordS needs t).1.set i true) = cnt (ordS needs t).1 + 1 := by
        unfold cnt
        rw [List.count_set hil, hf]
        simp
      simp only [this]
      omega
theorem ordS_t_le {needs : List (List Int)} {t : Nat} (h : ∀ s, s < t → nextOf needs (ordS needs s).1 ≠ none) : t ≤ needs.length := by
  have := ordS_cnt h
  have := cnt_le (ordS needs t).1
  rw [ordS_len] at this
  omega
theorem orderL_stop {needs : List (List Int)} {t : Nat} (hpast : ∀ s, s < t → nextOf needs (ordS needs s).1 ≠ none) (h : nextOf needs (ordS needs t).1 = none) : (ordS needs t).2 = orderL needs := by
  have hle := ordS_t_le hpast
  have := ordS_stop h (needs.length - t)
  rw [show t + (needs.length - t) = needs.length by omega] at this
  rw [orderL, this]
/-! ## Small ones for the walks -/
/-- The first place of what is asked for; -1: none. -/
def idxOf {α : Type} (p : α → Bool) (l : List α) : Int := match l.findIdx? p with
  | some i => (i : Int)
  | none => -1
theorem idxOf_found {α : Type} {l : List α} {p : α → Bool} {k : Nat} (hk : k < l.length) (h : p l[k] = true) (hno : ∀ (j : Nat) x, j < k → l[j]? = some x → p x = false) : idxOf p l = (k : Int) := by
  have : l.findIdx? p = some k := by
    rw [List.findIdx?_eq_some_iff_getElem]
    refine ⟨hk, h, fun j hj => ?_⟩
    have := hno j l[j] hj (gE (by omega))
    simp [this]
  simp [idxOf, this]
theorem idxOf_none {α : Type} {l : List α} {p : α → Bool} {k : Nat} (hk : l.length ≤ k) (hno : ∀ (j : Nat) x, j < k → l[j]? = some x → p x = false) : idxOf p l = -1 := by
  have : l.findIdx? p = none := by
    rw [List.findIdx?_eq_none_iff]
    intro x hx
    obtain ⟨j, hj, rfl⟩ := List.getElem_of_mem hx
    exact hno j l[j] (by omega) (gE hj)
  simp [idxOf, this]
theorem idx_step {α : Type} {l : List α} {p : α → Bool} {k : Nat} (hno : ∀ (j : Nat) x, j < k → l[j]? = some x → p x = false) (hk : k < l.length) (h : p l[k] = false) : ∀ (j : Nat) x, j < k + 1 → l[j]? = some x → p x = false := by
  intro j x hj hx
  by_cases e : j = k
  · subst e; rw [gE hk] at hx; cases hx; exact h
  · exact hno j x (by omega) hx
theorem idxOf_any {α : Type} {l : List α} {p : α → Bool} : decide ((0 : Int) ≤ idxOf p l) = l.any p := by
  unfold idxOf
  cases h : l.findIdx? p with
  | some i =>
    have h1 := h
    rw [List.findIdx?_eq_some_iff_getElem] at h1
    obtain ⟨hi, h2, _⟩ := h1
    have : l.any p = true := List.any_eq_true.2 ⟨l[i], gM hi, h2⟩
    simp [this]
  | none =>
    rw [List.findIdx?_eq_none_iff] at h
    have : l.any p = false := List.any_eq_false.2 (fun x hx => by rw [h x hx]; simp)
    simp [this]
theorem cand_step {needs : List (List Int)} {inn : List Bool} {i : Nat} (hno : ∀ j, j < i → cand needs inn j = false) (h : cand needs inn i = false) : ∀ j, j < i + 1 → cand needs inn j = false := by
  intro j hj
  by_cases e : j = i
  · subst e; exact h
  · exact hno j (by omega)
theorem past_step {needs : List (List Int)} {t i : Nat} (h : ∀ s, s < t → nextOf needs (ordS needs s).1 ≠ none) (hn : nextOf needs (ordS needs t).1 = some i) : ∀ s, s < t + 1 → nextOf needs (ordS needs s).1 ≠ none := by
  intro s hs
  by_cases e : s = t
  · subst e; rw [hn]; simp
  · exact h s (by omega)
open Go Go.RowKit
/-- A slice value as it is. -/
structure Raw where
  v : Value
instance : Rep Raw where
  sz := 1
  R := fun _ _ v x => v = x.v ∧ ∃ a l c, v = .slice a l c
  pos := by decide
  size := by rintro M w v x ⟨_, a, l, c, rfl⟩; rfl
  one := by rintro M w v x ⟨_, a, l, c, rfl⟩ u hu; simp [Value.cells] at hu; subst hu; rfl
  upd := fun h _ => h
  wk := fun h _ => h
theorem OAt.raw {w : World} {b o : Nat} {v : Value} (h : OAt w b o v.cells.toList) (hs : ∃ a l c, v = .slice a l c) : OAt w b o [v] := by
  obtain ⟨a, l, c, rfl⟩ := hs; exact h
/-- The rows of a slice of slices vt: each of the call's own, no two in one block. -/
structure MRows {α : Type} [Rep α] (e B : Nat) (M : Nat → Prop) (w : World) (vt : Value) (vs : List Raw) (rows : List (List α)) : Prop where
  len : vs.length = rows.length
  row : ∀ (i : Nat) (x : Raw) (r : List α), vs[i]? = some x → rows[i]? = some r → OwnSl e B M w x.v r
  dis : ∀ (i j : Nat) (x y : Raw) (b : Nat), i ≠ j → vs[i]? = some x → vs[j]? = some y → x.v.ownBlock = some b → y.v.ownBlock ≠ some b
  top : ∀ (i : Nat) (x : Raw) (b : Nat), vs[i]? = some x → x.v.ownBlock = some b → vt.ownBlock ≠ some b
section
variable {α : Type} [Rep α] {e B : Nat} {M M' : Nat → Prop} {w w' : World} {vt : Value} {vs : List Raw} {rows : List (List α)}
theorem rows_start (n : Nat) : MRows e B M w vt (List.replicate n ⟨.slice none 0 0⟩) (List.replicate n ([] : List α)) := by
  have key : ∀ {i : Nat} {x : Raw}, (List.replicate n (⟨.slice none 0 0⟩ : Raw))[i]? = some x → x = ⟨.slice none 0 0⟩ := by
    intro i x hx
    rw [List.getElem?_replicate] at hx
    split at hx
    · simpa using hx.symm
    · cases hx
  refine ⟨by simp, fun i x r hx hr => ?_, fun i j x y b _ hx hy hb => ?_, fun i x b hx hb => ?_⟩
  · rw [key hx]
    rw [List.getElem?_replicate] at hr
    split at hr
    · simp at hr; subst hr; exact own_nil
    · cases hr
  · rw [key hx] at hb; simp [Value.ownBlock] at hb
  · rw [key hx] at hb; simp [Value.ownBlock] at hb
theorem MRows.get (h : MRows e B M w vt vs rows) {i : Nat} {x : Raw} (hx : vs[i]? = some x) : ∃ r, rows[i]? = some r ∧ OwnSl e B M w x.v r := by
  have hi : i < rows.length := by rw [← h.len]; exact (List.getElem?_eq_some_iff.1 hx).1
  exact ⟨rows[i], gE hi, h.row i x _ hx (gE hi)⟩
theorem MRows.lt (h : MRows e B M w vt vs rows) {i : Nat} {x : Raw} {b : Nat} (hx : vs[i]? = some x) (hb : x.v.ownBlock = some b) : B ≤ b ∧ b < w.heap.size := by
  obtain ⟨r, _, hr⟩ := h.get hx
  exact hr.lt b hb
theorem MRows.sp (h : MRows e B M w vt vs rows) (s : Stp B M M' w w') (hb : ∀ (i : Nat) (x : Raw) (b : Nat), vs[i]? = some x → x.v.ownBlock = some b → w'.heap[b]? = w.heap[b]?) : MRows e B M' w' vt vs rows :=
  ⟨h.len, fun i x r hx hr => (h.row i x r hx hr).sp s (fun b hxb => hb i x b hx hxb), h.dis, h.top⟩
theorem MRows.Y (h : MRows e B M w vt vs rows) (hl : Low M w) (hB : B ≤ w.heap.size) (x : Ext w w') : MRows e B M w' vt vs rows :=
  ⟨h.len, fun i y r hy hr => (h.row i y r hy hr).Y hl hB x, h.dis, h.top⟩
theorem MRows.app (h : MRows e B M w vt vs rows) {j : Nat} {x : Raw} (hx : vs[j]? = some x) (s : Stp B M M' w w') (fr : ∀ b, b < w.heap.size → some b ≠ x.v.ownBlock → w'.heap[b]? = w.heap[b]?)
    {v' : Value} {r' : List α} (bl : ∀ b, v'.ownBlock = some b → x.v.ownBlock = some b ∨ w.heap.size ≤ b) (hn : OwnSl e B M' w' v' r') (hvt : ∀ b, vt.ownBlock = some b → b < w.heap.size) : MRows e B M' w' vt (vs.set j ⟨v'⟩) (rows.set j r') := by
  have hj : j < vs.length := (List.getElem?_eq_some_iff.1 hx).1
  have hjr : j < rows.length := by rw [← h.len]; exact hj
  refine ⟨by simp [h.len], fun i y r hy hr => ?_, fun i k y z b hik hy hz hb => ?_, fun i y b hy hb => ?_⟩
  · rw [List.getElem?_set] at hy hr
    by_cases e : j = i
    · subst e
      simp [hj] at hy; simp [hjr] at hr
      subst hy; subst hr
      exact hn
    · simp only [e, if_false] at hy hr
      exact (h.row i y r hy hr).sp s (fun b hb => fr b (h.lt hy hb).2 (fun e' => h.dis i j y x b (Ne.symm e) hy hx hb e'.symm))
  · rw [List.getElem?_set] at hy hz
    by_cases e1 : j = i
    · subst e1
      simp [hj] at hy
      subst hy
      simp only [hik, if_false] at hz
      rcases bl b hb with hb' | hb'
      · exact h.dis j k x z b hik hx hz hb'
      · intro hzb; have := (h.lt hz hzb).2; omega
    · simp only [e1, if_false] at hy
      by_cases e2 : j = k
      · subst e2
        simp [hj] at hz
        subst hz
        intro hzb
        rcases bl b hzb with hb' | hb'
        · exact h.dis i j y x b hik hy hx hb hb'
        · have := (h.lt hy hb).2; omega
      · simp only [e2, if_false] at hz
        exact h.dis i k y z b hik hy hz hb
  · rw [List.getElem?_set] at hy
    by_cases e1 : j = i
    · subst e1
      simp [hj] at hy
      subst hy
      intro hvb
      rcases bl b hb with hb' | hb'
      · exact h.top j x b hx hb' hvb
      · have := hvt b hvb; omega
    · simp only [e1, if_false] at hy
      exact h.top i y b hy hb
theorem MRows.sl {e2 : Nat} (h : MRows e B M w vt vs rows) (ht : OwnSl e2 B M w vt vs) (hl : rows.length < 140737488355328) (hr : ∀ r ∈ rows, r.length < 140737488355328) {M0 : Nat → Prop} (h0 : ∀ b, M0 b → b < B) (hsub : ∀ b, M0 b → M b) : Sl M0 w vt rows := by
  obtain ⟨a, c, hv, hlt, hc, he⟩ := ht.sl (by rw [h.len]; exact hl) h0 hsub
  refine ⟨a, c, by rw [hv, h.len], hl, by rw [← h.len]; exact hc, ?_⟩
  rcases he with he | ⟨b, off, ha, hel⟩
  · left
    have := h.len
    rw [he] at this
    exact List.eq_nil_of_length_eq_zero this.symm
  · right
    refine ⟨b, off, ha, fun i r hir => ?_⟩
    have hi : i < vs.length := by rw [h.len]; exact (List.getElem?_eq_some_iff.1 hir).1
    obtain ⟨u, ⟨hu, _⟩, hat⟩ := hel i vs[i] (gE hi)
    exact ⟨u, by rw [hu]; exact (h.row i _ r (gE hi) hir).sl (hr r (List.mem_of_getElem? hir)) h0 hsub, hat⟩
end
end Rw
namespace Go.Proofs.YtpoahmeacjggfaaGreat
open Go Rw Go.RowKit
set_option maxRecDepth 100000
theorem sameInts_spec (M : Nat → Prop) (w : World) (u v : Value) (a b : List Int) (ha : Sl M w u a) (hb : Sl M w v b) :
    Calls Tryz.prog 8 #[u, v] w (Ret fun r w' => r = .bool (decide (a = b)) ∧ Ext w w') := by
  have hla := ha.lt
  have hlb := hb.lt
  have hE := ext_refl w
  refine cN (n := 26) Tryz.func8 rfl rfl rfl ?_
  refine q0 (lP 1 tK rfl (q1 (cS (q0 (lP 1 tK rfl ?_)))))
  refine lC (o_len tK ha rfl rfl rfl rfl rfl ?_)
  refine lP 1 tK rfl ?_
  refine lC (o_len tK hb rfl rfl rfl rfl rfl ?_)
  refine lP 1 tK rfl (q1 ?_)
  refine c_ifN _ rfl (fun h1 => ?_) (fun h1 => ?_)
  · refine q0 (lP 1 tK rfl (q1 (cR (xR (x1_ rfl rfl ?_)))))
    exact ⟨by rw [len_ne h1], hE⟩
  refine cK (xS (cS (q0 (lP 1 tK rfl (q1 (cB ?_))))))
  refine c_loop (X := Nat) (fun x => [(0, u), (1, v), (5, .int .i64 (x : Nat))]) (fun x w' => Ext w w' ∧ x ≤ a.length ∧ a.take x = b.take x) (fun x => a.length - x) (0) (s3 rfl rfl rfl) ?_ ?_
  · exact ⟨hE, Nat.zero_le _, rfl⟩
  rintro k w0 ⟨hE, hk, hs⟩
  replace ha := ha.Y hE
  replace hb := hb.Y hE
  refine cS (q0 (lP 2 tK rfl ?_))
  refine lC (o_len tK ha rfl rfl rfl rfl rfl ?_)
  refine lP 1 tK rfl (q1 ?_)
  refine cP _ rfl (fun h => ?_) (fun h => ?_)
  · have hka : k < a.length := by omega
    have hkb : k < b.length := by omega
    refine cK (xS (cS (cB (cS ?_))))
    refine a_beg Ext rfl ?_
    intro w1 ew1
    replace ha := ha.Y ew1
    replace hb := hb.Y ew1
    have hS : Ext w1 w1 := ext_refl _
    have D_ha := ha
    have D_hb := hb
    refine a_p 0 tK rfl rfl rfl rfl (by kernel_rfl) i3 hS ?_
    refine a_p 1 tK rfl rfl rfl rfl (by kernel_rfl) i3 hS ?_
    refine a_ixS 2 tK D_ha (gE hka) rfl rfl rfl rfl rfl rfl rfl rfl rfl rfl (by kernel_rfl) i4 hS ?_
    intro b1 o1 u1 hr1 hat1
    obtain ⟨rfl, hb1⟩ := hr1
    refine a_ld 3 tK (fun _ hs => (hat1.Y hs).cell 0 _ rfl) rfl rfl rfl rfl rfl rfl (by kernel_rfl) i3 hS ?_
    refine a_p 4 tK rfl rfl rfl rfl (by kernel_rfl) i3 hS ?_
    refine a_p 5 tK rfl rfl rfl rfl (by kernel_rfl) i3 hS ?_
    refine a_ixS 6 tK D_hb (gE hkb) rfl rfl rfl rfl rfl rfl rfl rfl rfl rfl (by kernel_rfl) i4 hS ?_
    intro b2 o2 u2 hr2 hat2
    obtain ⟨rfl, hb2⟩ := hr2
    refine a_ld 7 tK (fun _ hs => (hat2.Y hs).cell 0 _ rfl) rfl rfl rfl rfl rfl rfl (by kernel_rfl) i3 hS ?_
    refine a_p 8 tK rfl rfl rfl rfl (by kernel_rfl) i3 hS ?_
    refine a_end (by kernel_rfl) ?_
    refine xS ?_
    refine c_ifN _ rfl (fun h2 => ?_) (fun h2 => ?_)
    · refine q0 (lP 1 tK rfl (q1 (cR (xB (xR (xR (xB (xR (x1_ rfl rfl ?_)))))))))
      exact ⟨by rw [take_ne hka hkb h2], hE.then ew1⟩
    refine cK (x_blk (xS (cG (lP 1 tK rfl ?_))))
    refine lC (o_ai rfl rfl rfl (by omega) rfl rfl ?_)
    refine lP 1 tK rfl (lN ?_)
    exact x_round (k + 1) (s3 rfl rfl rfl) ⟨hE.then ew1, by omega, take_succ_eq hka hkb hs h2⟩ (by omega)
  refine c_exit (xE (xE (x_blkE (xS (q0 (lP 1 tK rfl (q1 (cR (x1_ rfl rfl ?_)))))))))
  exact ⟨by rw [take_all (by omega) h1 hs], hE⟩
theorem node_spec (M : Nat → Prop) (w : World) (v : Value) (needs : List (List Int)) (i : Int) (hn : Sl M w v needs) :
    Calls Tryz.prog 19 #[v, .int .i64 i] w (Ret fun r w' => r = .bool (isNode needs i) ∧ w = w') := by
  refine cN (n := 13) Tryz.func19 rfl rfl rfl ?_
  refine q0 (lP 1 tK rfl (q1 (q0 (lP 3 tK rfl ?_))))
  refine lS 7 _ rfl (fun h => ?_) (fun h => ?_)
  · refine lP 2 tK rfl ?_
    refine lC (o_len tK hn rfl rfl rfl rfl rfl ?_)
    refine lP 3 tK rfl (q1 (cR (x1_ rfl rfl ?_)))
    exact ⟨by simp [isNode, h], rfl⟩
  refine lP 6 tK rfl (q1 (cR (x1_ rfl rfl ?_)))
  exact ⟨by simp [isNode, h], rfl⟩
theorem reach_spec (M : Nat → Prop) (w : World) (vn : Value) (needs : List (List Int)) (i : Nat) (hn : Sl M w vn needs) (hi : i < needs.length) (hlow0 : Low M w) (hsm : needs.length ≤ 1000000) :
    Calls Tryz.prog 16 #[vn, .int .i64 (i : Int)] w (Ret fun r w' => Sl M w' r (reachM needs i) ∧ Ext w w') := by
  have Lw := hlow0
  have hB := lR w.heap.size
  have hE := Below.refl w.heap.size w
  have hsub : ∀ b, M b → M b := fun _ h => h
  refine cN (n := 52) Tryz.func16 rfl rfl rfl ?_
  refine q0 (lP 1 tK rfl (q1 (q0 (lP 1 tK rfl ?_))))
  refine lC (o_len tK hn rfl rfl rfl rfl rfl ?_)
  refine lC (o_mk (false) tK rfl rfl rfl rfl rfl rfl rfl rfl (fun _ _ => rfl) (by show 1 * _ ≤ 140737488355328; omega) (by omega) Lw hB rfl rfl ?_)
  intro bw1 w1 qbw1 ew1 sw1 hm
  replace hE := hE.trans sw1.below
  replace hn := hn.sp sw1
  replace hsub := sw1.sb hsub
  replace Lw := sw1.low
  replace hB := sw1.z hB
  refine lP 1 tK rfl (q1 (q0 (lP 1 tK rfl ?_)))
  have hmb : bw1 < w1.heap.size := (hm.lt bw1 rfl).2
  refine lC (o_bs tK rfl rfl rfl rfl rfl rfl rfl (sz1 rfl) rfl rfl rfl ?_)
  intro bw2 w2 qbw2 ew2 hbw2
  have sw2 := Stp.add ew2 Lw hB (lQ qbw2.symm) hbw2.lt
  have le_bw2 := hB
  replace hm := hm.sp sw2 (fun x hx => ew2.block x (hm.lt x hx).2)
  replace hE := hE.trans sw2.below
  replace hn := hn.sp sw2
  replace hsub := sw2.sb hsub
  replace Lw := sw2.low
  replace hB := sw2.z hB
  have hl := own_litS sw2 hbw2 (show Rs _ _ [_] [(i : Int)] from ⟨⟨rfl, by unfold I64; omega⟩, trivial⟩) qbw2 le_bw2 (by simp [maxLen])
  refine lP 1 tK rfl (q1 (cS (q0 (lP 1 tK rfl (q1 (cB ?_))))))
  refine c_loop5 (X := Nat) (Y := Value) (Z := Nat → Prop) (U := List Int) (V := List Bool) (fun k vl M1 l m => [(0, vn), (5, (.slice (some ⟨bw1, 0, none⟩) needs.length needs.length)), (6, vl), (7, .int .i64 (k : Nat))]) (fun k vl M1 l m w' => Bfs needs i k l m ∧ OwnSl 4 w.heap.size M1 w' (.slice (some ⟨bw1, 0, none⟩) needs.length needs.length) m ∧ OwnSl 3 w.heap.size M1 w' vl l ∧ (∀ b, vl.ownBlock = some b → b ≠ bw1) ∧ Sl M1 w' vn needs ∧ Low M1 w' ∧ (∀ b, M b → M1 b) ∧ Below w.heap.size w w' ∧ w.heap.size ≤ w'.heap.size) (fun k vl M1 l m => needs.length + 1 - k) (0) (.slice (some ⟨bw2, 0, none⟩) 1 1) ((Rw.Add (Rw.Add M bw1) bw2)) ([(i : Int)]) (List.replicate needs.length false) (s4 rfl rfl rfl rfl) ?_ ?_
  · exact ⟨bfs_start hi, hm, hl, fun b hb => by simp [Value.ownBlock] at hb; omega, hn, Lw, hsub, hE, hB⟩
  rintro k vl M1 l m w3 ⟨hb, hm, hl, hne, hn, Lw, hsub, hE, hB⟩
  refine cS (q0 (lP 2 tK rfl ?_))
  refine lC (o_lenO tK hl rfl rfl rfl rfl rfl ?_)
  refine lP 1 tK rfl (q1 ?_)
  refine cP _ rfl (fun h => ?_) (fun h => ?_)
  · have hkl : k < l.length := by omega
    have hll := bfs_length hb
    refine cK (xS (cS (cB (q0 (lP 3 tK rfl ?_)))))
    refine lC (o_ixO tK hl (gE hkl) rfl rfl rfl rfl rfl rfl rfl rfl rfl ?_)
    intro b u hob hr hat
    obtain ⟨rfl, hi64⟩ := hr
    obtain ⟨u, hu, hun⟩ := hb.node (gE hkl)
    refine lC (oD tK (hat.cell 0 _ rfl) rfl rfl rfl rfl rfl ?_)
    refine lC (o_ixS tK hn (gE hun) rfl rfl hu rfl rfl rfl rfl rfl rfl ?_)
    intro b2 o2 vs hs hat2
    replace hs : Sl M1 w3 vs needs[u] := hs
    replace hat2 := hat2.sl hs
    refine lC (oD tK (hat2.cell 0 _ rfl) rfl rfl rfl rfl rfl ?_)
    refine lC (o_len tK hs rfl rfl rfl rfl rfl ?_)
    refine lP 1 tK rfl (q1 (cB ?_))
    have hbi := bfs_in hb (u := u) (by rw [gE hkl, hu]) (gE hun)
    have hsl := hs.lt
    refine c_loop5 (X := Nat) (Y := Value) (Z := Nat → Prop) (U := List Int) (V := List Bool) (fun p vl M1 l m => [(0, vn), (5, (.slice (some ⟨bw1, 0, none⟩) needs.length needs.length)), (6, vl), (7, .int .i64 (k : Nat)), (27, vs), (28, .int .i64 (needs[u].length : Int)), (29, .int .i64 (p : Nat))]) (fun p vl M1 l m w' => BfsIn needs i k u needs[u] p l m ∧ Sl M1 w' vs needs[u] ∧ OwnSl 4 w.heap.size M1 w' (.slice (some ⟨bw1, 0, none⟩) needs.length needs.length) m ∧ OwnSl 3 w.heap.size M1 w' vl l ∧ (∀ b, vl.ownBlock = some b → b ≠ bw1) ∧ Sl M1 w' vn needs ∧ Low M1 w' ∧ (∀ b, M b → M1 b) ∧ Below w.heap.size w w' ∧ w.heap.size ≤ w'.heap.size) (fun p vl M1 l m => needs[u].length - p) (0) (vl) (M1) (l) (m) (s7 rfl rfl rfl rfl rfl rfl rfl) ?_ ?_
    · exact ⟨hbi, hs, hm, hl, hne, hn, Lw, hsub, hE, hB⟩
    rintro p vl M1 l m w4 ⟨hb, hs, hm, hl, hne, hn, Lw, hsub, hE, hB⟩
    refine q0 (lP 1 tK rfl (q1 (cS ?_)))
    refine cP _ rfl (fun h1 => ?_) (fun h1 => ?_)
    · have hp : p < needs[u].length := by omega
      refine cK (xS (cS (cB (q0 ?_))))
      refine lC (o_ixS tK hs (gE hp) rfl rfl rfl rfl rfl rfl rfl rfl rfl ?_)
      intro b3 o3 u3 hr3 hat3
      obtain ⟨rfl, hi3⟩ := hr3
      refine lC (oD tK (hat3.cell 0 _ rfl) rfl rfl rfl rfl rfl ?_)
      refine lP 1 tK rfl (q1 (q0 (lP 2 tK rfl ?_)))
      refine lC (oK fo19 rfl rfl rfl (node_spec M1 _ _ needs _ hn) ?_)
      rintro _ _ ⟨rfl, rfl⟩
      refine lP 1 tK rfl ?_
      refine l_split 36 _ rfl (fun h3 => ?_) (fun h3 => ?_)
      · obtain ⟨v, hv, hvn⟩ := isNode_nat h3
        have hvm : v < m.length := by rw [hb.base.len]; exact hvn
        refine lP 2 tK rfl ?_
        refine lC (o_ixO tK hm (gE hvm) rfl rfl hv rfl rfl rfl rfl rfl rfl ?_)
        intro b4 u4 hob4 hr4 hat4
        obtain rfl := hr4
        refine lC (oD tK (hat4.cell 0 _ rfl) rfl rfl rfl rfl rfl ?_)
        refine lP 2 tK rfl (q1 ?_)
        refine c_ifB _ rfl (fun h4 => ?_) (fun h4 => ?_)
        · refine q0 (lP 2 tK rfl ?_)
          refine lC (o_ixO tK hm (gE hvm) rfl rfl hv rfl rfl rfl rfl rfl rfl ?_)
          intro b5 u5 hob5 hr5 hat5
          obtain rfl : bw1 = b5 := by simpa [Value.ownBlock] using hob5
          refine lC (o_stO tK hm hob5 hvm (z := true) rfl Lw rfl rfl rfl rfl rfl rfl ?_)
          intro w5 hw5 sw5 frw5
          replace hl := hl.sp sw5 (fun x hx => frw5 x (hl.lt x hx).2 (hne x hx))
          replace hE := hE.trans sw5.below
          replace hn := hn.sp sw5
          replace hs := hs.sp sw5
          replace hsub := sw5.sb hsub
          replace Lw := sw5.low
          replace hB := sw5.z hB
          replace hm := hw5
          clear hw5
          have hll := bfs_length hb.base
          have hlm := hm.lt bw1 rfl
          refine q1 (cG (lP 2 tK rfl ?_))
          refine lC (o_bs tK rfl rfl rfl rfl rfl rfl rfl (sz1 rfl) rfl rfl rfl ?_)
          intro bw6 w6 qbw6 ew6 hbw6
          have nbw6 := nO Lw qbw6
          replace hm := hm.Y Lw hB ew6
          replace hl := hl.Y Lw hB ew6
          replace hE := ew6.bl hE hB
          replace hn := hn.Y ew6
          replace hs := hs.Y ew6
          replace Lw := Lw.Y ew6
          replace hB := ew6.z hB
          refine lC (o_app1 tK hl hbw6 nbw6 ⟨rfl, hi3⟩ Lw hB rfl rfl rfl rfl rfl rfl rfl (by omega) (by show (_ + _) * 8 ≤ _; omega) rfl rfl ?_)
          intro vw7 w7 Mw7 hw7 sw7 frw7 blw7
          replace hm := hm.sp sw7 (fun x hx => frw7 x (hm.lt x hx).2 (fun e => hne x e.symm (by simpa [Value.ownBlock] using hx.symm)))
          replace hE := hE.trans sw7.below
          replace hn := hn.sp sw7
          replace hs := hs.sp sw7
          replace hsub := sw7.sb hsub
          replace Lw := sw7.low
          replace hB := sw7.z hB
          replace hl := hw7
          clear hw7
          refine lP 1 tK rfl (q2 (xS (cG ?_)))
          refine lC (o_ai rfl rfl rfl (by omega) rfl rfl ?_)
          refine lP 1 tK rfl (lN ?_)
          exact x_round5 (p + 1) (vw7) (Mw7) (l ++ [needs[u][p]]) (m.set v true) (s7 rfl rfl rfl rfl rfl rfl rfl) ⟨by rw [hv]; exact bfs_new hb hp hv hvn (by rw [gE hvm, h4]; simp), hs, hm, hl, (fun x hx => (blw7 x hx).elim (hne x) (fun h => by have := hlm.2; have := ew6.size; omega)), hn, Lw, hsub, hE, hB⟩ (by omega)
        refine cK (x_blk (xS (cG ?_)))
        refine lC (o_ai rfl rfl rfl (by omega) rfl rfl ?_)
        refine lP 1 tK rfl (lN ?_)
        exact x_round5 (p + 1) (vl) (M1) (l) (m) (s7 rfl rfl rfl rfl rfl rfl rfl) ⟨bfs_old hb hp hv (by rw [gE hvm, h4]), hs, hm, hl, hne, hn, Lw, hsub, hE, hB⟩ (by omega)
      refine lP 6 tK rfl (q1 (c_ifF rfl (cK (x_blk (xS (cG ?_))))))
      refine lC (o_ai rfl rfl rfl (by omega) rfl rfl ?_)
      refine lP 1 tK rfl (lN ?_)
      exact x_round5 (p + 1) (vl) (M1) (l) (m) (s7 rfl rfl rfl rfl rfl rfl rfl) ⟨bfs_skip hb hp (fun v' hv' hl' => absurd h3 (isNode_of hv' hl')), hs, hm, hl, hne, hn, Lw, hsub, hE, hB⟩ (by omega)
    refine c_exit (xE (xE (x_blkE (x_blk (xS (cG (lP 1 tK rfl ?_)))))))
    refine lC (o_ai rfl rfl rfl (by omega) rfl rfl ?_)
    refine lP 1 tK rfl (lN ?_)
    exact x_round5 (k + 1) (vl) (M1) (l) (m) (s4 rfl rfl rfl rfl) ⟨bfs_next hb (by omega), hm, hl, hne, hn, Lw, hsub, hE, hB⟩ (by omega)
  refine c_exit (xE (xE (x_blkE (xS (q0 (lP 2 tK rfl (q1 (cR (x1_ rfl rfl ?_)))))))))
  rw [bfs_end hb (by omega)] at hm
  exact ⟨hm.sl (by simp [reachM]; omega) hlow0 hsub, hE⟩
theorem circles_spec (M : Nat → Prop) (w : World) (vn : Value) (needs : List (List Int)) (hn : Sl M w vn needs) (hlow0 : Low M w) (hsm : needs.length ≤ 1000000) :
    Calls Tryz.prog 9 #[vn] w (Ret fun r w' => Sl M w' r (circlesL needs) ∧ Ext w w') := by
  have Lw := hlow0
  have hB := lR w.heap.size
  have hE := Below.refl w.heap.size w
  have hsub : ∀ b, M b → M b := fun _ h => h
  refine cN (n := 22) Tryz.func9 rfl rfl rfl ?_
  have hpl := pick_length (fun k => (@decide (Rch needs k k) (Classical.propDecidable _)))
  refine q0 (lP 1 tK rfl (q1 (q0 (lP 1 tK rfl (q1 (cS (q0 (lP 1 tK rfl ?_))))))))
  refine lC (o_len tK hn rfl rfl rfl rfl rfl ?_)
  refine lP 1 tK rfl (q1 (cB ?_))
  refine c_loop3 (X := Nat) (Y := Value) (Z := Nat → Prop) (fun k v M1 => [(0, vn), (3, v), (7, .int .i64 (k : Nat)), (5, vn), (6, .int .i64 (needs.length : Int))]) (fun k v M1 w' => k ≤ needs.length ∧ OwnSl 3 w.heap.size M1 w' v (pickUpto (fun k => (@decide (Rch needs k k) (Classical.propDecidable _))) k) ∧ Sl M1 w' vn needs ∧ Low M1 w' ∧ (∀ b, M b → M1 b) ∧ Below w.heap.size w w' ∧ w.heap.size ≤ w'.heap.size) (fun k v M1 => needs.length - k) (0) (.slice none 0 0) (M) (s5 rfl rfl rfl rfl rfl) ?_ ?_
  · exact ⟨Nat.zero_le _, own_nil, hn, Lw, hsub, hE, hB⟩
  rintro k v M1 w1 ⟨hk, hown, hn, Lw, hsub, hE, hB⟩
  refine q0 (lP 1 tK rfl (q1 (cS ?_)))
  refine cP _ rfl (fun h => ?_) (fun h => ?_)
  · have hkn : k < needs.length := by omega
    have hk2 := hpl k
    refine cK (xS (cS (cB (q0 (lP 2 tK rfl (q1 (q0 (lP 2 tK rfl ?_))))))))
    refine lC (oK fo16 rfl rfl rfl (reach_spec M1 _ vn needs k hn hkn Lw hsm) ?_)
    rintro r w2 ⟨hr, ew2⟩
    replace hown := hown.Y Lw hB ew2
    replace hE := ew2.bl hE hB
    replace hn := hn.Y ew2
    replace Lw := Lw.Y ew2
    replace hB := ew2.z hB
    refine lP 1 tK rfl ?_
    refine lC (o_ixS tK hr (gE (by rw [reachM_length]; exact hkn)) rfl rfl rfl rfl rfl rfl rfl rfl rfl ?_)
    intro b1 o1 u1 hr1 hat1
    obtain rfl := hr1
    rw [reachM_get] at hat1
    refine lC (oD tK (hat1.cell 0 _ rfl) rfl rfl rfl rfl rfl ?_)
    refine q1 ?_
    refine c_if _ rfl (fun h2 => ?_) (fun h2 => ?_)
    · refine cG (lP 2 tK rfl ?_)
      refine lC (o_bs tK rfl rfl rfl rfl rfl rfl rfl (sz1 rfl) rfl rfl rfl ?_)
      intro bw3 w3 qbw3 ew3 hbw3
      have nbw3 := nO Lw qbw3
      replace hown := hown.Y Lw hB ew3
      replace hE := ew3.bl hE hB
      replace hn := hn.Y ew3
      replace Lw := Lw.Y ew3
      replace hB := ew3.z hB
      refine lC (o_app1 tK hown hbw3 nbw3 ⟨rfl, by unfold I64; omega⟩ Lw hB rfl rfl rfl rfl rfl rfl rfl (by omega) (by show (_ + _) * 8 ≤ _; omega) rfl rfl ?_)
      intro vw4 w4 Mw4 hw4 sw4 frw4 blw4
      replace hE := hE.trans sw4.below
      replace hn := hn.sp sw4
      replace hsub := sw4.sb hsub
      replace Lw := sw4.low
      replace hB := sw4.z hB
      replace hown := hw4
      clear hw4
      refine lP 1 tK rfl (q2 (xS (cG ?_)))
      refine lC (o_ai rfl rfl rfl (by omega) rfl rfl ?_)
      refine lP 1 tK rfl (lN ?_)
      exact x_round3 (k + 1) (vw4) (Mw4) (s5 rfl rfl rfl rfl rfl) ⟨by omega, by rw [pick_yes (p := (fun k => (@decide (Rch needs k k) (Classical.propDecidable _)))) h2]; exact hown, hn, Lw, hsub, hE, hB⟩ (by omega)
    refine cK (x_blk (xS (cG ?_)))
    refine lC (o_ai rfl rfl rfl (by omega) rfl rfl ?_)
    refine lP 1 tK rfl (lN ?_)
    exact x_round3 (k + 1) (v) (M1) (s5 rfl rfl rfl rfl rfl) ⟨by omega, by rw [pick_no (p := (fun k => (@decide (Rch needs k k) (Classical.propDecidable _)))) h2]; exact hown, hn, Lw, hsub, hE, hB⟩ (by omega)
  refine c_exit (xE (xE (x_blkE (xS (q0 (lP 2 tK rfl (q1 (cR (x1_ rfl rfl ?_)))))))))
  have hpk := hpl k
  obtain rfl : k = needs.length := by omega
  exact ⟨hown.sl (by omega) hlow0 hsub, hE⟩
theorem indexFunc_spec (M : Nat → Prop) (w : World) (v : Value) (l : List Int) (g : Nat) (caps : List Value) (p : Int → Bool) (hl : Sl M w v l) (hg : FnOk Tryz.prog g)
    (hc : ∀ x ∈ l, Calls Tryz.prog g ([Value.int .i64 x] ++ caps).toArray w (Ret fun r w' => r = .bool (p x) ∧ w = w')) :
    Calls Tryz.prog 31 #[v, .func (.func g) #[] caps.toArray] w (Ret fun r w' => r = .int .i64 (idxOf p l) ∧ w = w') := by
  have hlt := hl.lt
  refine cN (n := 19) Tryz.func31 rfl rfl rfl ?_
  refine q0 (lP 1 tK rfl (q1 (cS (q0 (lP 1 tK rfl ?_)))))
  refine lC (o_len tK hl rfl rfl rfl rfl rfl ?_)
  refine lP 1 tK rfl (q1 (cB ?_))
  refine c_loop (X := Nat) (fun k => [(0, v), (1, .func (.func g) #[] caps.toArray), (7, .int .i64 (l.length : Int)), (8, .int .i64 (k : Nat))]) (fun k w' => w = w' ∧ k ≤ l.length ∧ ∀ (j : Nat) x, j < k → l[j]? = some x → p x = false) (fun k => l.length - k) (0) (s4 rfl rfl rfl rfl) ?_ ?_
  · exact ⟨rfl, Nat.zero_le _, fun j x hj => absurd hj (Nat.not_lt_zero _)⟩
  rintro k _ ⟨rfl, hk, hno⟩
  refine q0 (lP 1 tK rfl (q1 (cS ?_)))
  refine cP _ rfl (fun h => ?_) (fun h => ?_)
  · have hkl : k < l.length := by omega
    refine cK (xS (cS (cB (q0 (lP 2 tK rfl (q1 (q0 (lP 3 tK rfl ?_))))))))
    refine lC (o_ixS tK hl (gE hkl) rfl rfl rfl rfl rfl rfl rfl rfl rfl ?_)
    intro b o u hr hat
    obtain ⟨rfl, hb⟩ := hr
    refine lC (oD tK (hat.cell 0 _ rfl) rfl rfl rfl rfl rfl ?_)
    refine lC (o_dyn rfl hg rfl rfl rfl (hc l[k] (gM hkl)) ?_)
    rintro _ _ ⟨rfl, rfl⟩
    refine q1 ?_
    refine c_if _ rfl (fun h2 => ?_) (fun h2 => ?_)
    · refine q0 (lP 2 tK rfl (q1 (cR (xB (xR (xR (xB (xR (x1_ rfl rfl ?_)))))))))
      exact ⟨by rw [idxOf_found hkl h2 hno], rfl⟩
    refine cK (x_blk (xS (cG ?_)))
    refine lC (o_ai rfl rfl rfl (by omega) rfl rfl ?_)
    refine lP 1 tK rfl (lN ?_)
    exact x_round (k + 1) (s4 rfl rfl rfl rfl) ⟨rfl, by omega, idx_step hno hkl h2⟩ (by omega)
  refine c_exit (xE (xE (x_blkE (xS (q0 (lP 1 tK rfl (q1 (cR (x1_ rfl rfl ?_)))))))))
  exact ⟨by rw [idxOf_none (by omega) hno], rfl⟩
theorem containsFunc_spec (M : Nat → Prop) (w : World) (v : Value) (l : List Int) (g : Nat) (caps : List Value) (p : Int → Bool) (hl : Sl M w v l) (hg : FnOk Tryz.prog g)
    (hc : ∀ x ∈ l, Calls Tryz.prog g ([Value.int .i64 x] ++ caps).toArray w (Ret fun r w' => r = .bool (p x) ∧ w = w')) :
    Calls Tryz.prog 17 #[v, .func (.func g) #[] caps.toArray] w (Ret fun r w' => r = .bool (l.any p) ∧ w = w') := by
  refine cN (n := 9) Tryz.func17 rfl rfl rfl ?_
  refine q0 (lP 1 tK rfl (q1 (q0 (lP 2 tK rfl ?_))))
  refine lC (oK fo31 rfl rfl rfl (indexFunc_spec M _ _ l g caps p hl hg hc) ?_)
  rintro _ _ ⟨rfl, rfl⟩
  refine lP 2 tK rfl (q1 (cR (x1_ rfl rfl ?_)))
  exact ⟨by rw [idxOf_any], rfl⟩
theorem order1_spec (M : Nat → Prop) (w : World) (B b1 b3 : Nat) (vn vd : Value) (needs : List (List Int)) (inn : List Bool) (x : Int) (h1 : At M w b1 0 [vn]) (h3 : At M w b3 0 [vd]) (hn : Sl M w vn needs) (hd : OwnSl 4 B M w vd inn) (hlen : inn.length = needs.length) :
    Calls Tryz.prog 18 ([Value.int .i64 x] ++ [Value.pointer (some ⟨b1, 0, none⟩), Value.pointer (some ⟨b3, 0, none⟩)]).toArray w (Ret fun r w' => r = .bool (waits needs inn x) ∧ w = w') := by
  refine cN (n := 15) Tryz.func18 rfl rfl rfl ?_
  refine q0 (lP 1 tK rfl (q1 (q0 ?_)))
  refine lC (oD tK (h1.cell 0 _ rfl) rfl rfl rfl rfl rfl ?_)
  refine lP 1 tK rfl ?_
  refine lC (oK fo19 rfl rfl rfl (node_spec M _ _ needs _ hn) ?_)
  rintro _ _ ⟨rfl, rfl⟩
  refine lP 1 tK rfl ?_
  refine l_split 8 _ rfl (fun h => ?_) (fun h => ?_)
  · obtain ⟨v, hv, hvn⟩ := isNode_nat h
    have hvi : v < inn.length := by omega
    refine lC (oD tK (h3.cell 0 _ rfl) rfl rfl rfl rfl rfl ?_)
    refine lP 1 tK rfl ?_
    refine lC (o_ixO tK hd (gE hvi) rfl rfl hv rfl rfl rfl rfl rfl rfl ?_)
    intro b u hob hr hat
    obtain rfl := hr
    refine lC (oD tK (hat.cell 0 _ rfl) rfl rfl rfl rfl rfl ?_)
    refine lP 3 tK rfl (q1 (cR (x1_ rfl rfl ?_)))
    exact ⟨by unfold waits; rw [h, hv]; simp [hvi], rfl⟩
  refine lP 7 tK rfl (q1 (cR (x1_ rfl rfl ?_)))
  exact ⟨by simp [waits, h], rfl⟩
theorem order_spec (M : Nat → Prop) (w : World) (vn : Value) (needs : List (List Int)) (hn : Sl M w vn needs) (hlow0 : Low M w) (hsm : needs.length ≤ 1000000) :
    Calls Tryz.prog 10 #[vn] w (Ret fun r w' => Sl M w' r (orderL needs) ∧ Ext w w') := by
  have Lw := hlow0
  have hB := lR w.heap.size
  have hE := Below.refl w.heap.size w
  have hsub : ∀ b, M b → M b := fun _ h => h
  refine cN (n := 43) Tryz.func10 rfl rfl rfl ?_
  refine q0 ?_
  refine lC (o_box rfl rfl rfl ?_)
  intro b1 w1 hb_b1 ew1 h1
  rw [hn.cells] at h1
  replace h1 := h1.at (nO Lw hb_b1)
  replace hE := ew1.bl hE hB
  replace hn := hn.Y ew1
  replace Lw := Lw.Y ew1
  replace hB := ew1.z hB
  refine lP 1 tK rfl (q1 (q0 ?_))
  refine lC (oD tK (h1.cell 0 _ rfl) rfl rfl rfl rfl rfl ?_)
  refine lC (o_len tK hn rfl rfl rfl rfl rfl ?_)
  refine lC (o_mk (false) tK rfl rfl rfl rfl rfl rfl rfl rfl (fun _ _ => rfl) (by show 1 * _ ≤ 140737488355328; omega) (by omega) Lw hB rfl rfl ?_)
  intro bw2 w2 qbw2 ew2 sw2 hd
  replace hE := hE.trans sw2.below
  replace hn := hn.sp sw2
  replace h1 := h1.sp sw2
  replace hsub := sw2.sb hsub
  replace Lw := sw2.low
  replace hB := sw2.z hB
  refine lC (o_new tK rfl rfl rfl ?_)
  intro b3 w3 qb3 ew3 hb3
  have nb3 := nO Lw qb3
  refine lC (o_st tK hb3 rfl rfl rfl rfl (by simp [Value.cells, Value.oneCell']) rfl rfl ?_)
  intro w4 h3 uw4 bew4
  have ew4 : Ext w2 w4 := ew3.trans (bew4 _ (lQ qb3.symm))
  replace hd := hd.Y Lw hB ew4
  replace hE := ew4.bl hE hB
  replace hn := hn.Y ew4
  replace h1 := h1.Y ew4
  replace Lw := Lw.Y ew4
  replace hB := ew4.z hB
  replace h3 : Box w4 b3 46 [(.slice (some ⟨bw2, 0, none⟩) needs.length needs.length)] := h3
  replace h3 := h3.at nb3
  refine q1 (q0 (lP 1 tK rfl (q1 (cB ?_))))
  refine c_loop3 (X := Nat) (Y := Value) (Z := Nat → Prop) (fun t v M1 => [(1, .pointer (some ⟨b1, 0, none⟩)), (3, .pointer (some ⟨b3, 0, none⟩)), (4, v)]) (fun t v M1 w' => (∀ s, s < t → nextOf needs (ordS needs s).1 ≠ none) ∧ OwnSl 4 w.heap.size M1 w' (.slice (some ⟨bw2, 0, none⟩) needs.length needs.length) (ordS needs t).1 ∧ OwnSl 3 w.heap.size M1 w' v (ordS needs t).2 ∧ (∀ b, v.ownBlock = some b → b ≠ bw2) ∧ At M1 w' b1 0 [vn] ∧ At M1 w' b3 0 [(.slice (some ⟨bw2, 0, none⟩) needs.length needs.length)] ∧ Sl M1 w' vn needs ∧ Low M1 w' ∧ (∀ b, M b → M1 b) ∧ Below w.heap.size w w' ∧ w.heap.size ≤ w'.heap.size) (fun t v M1 => needs.length + 1 - t) (0) (.slice none 0 0) ((Rw.Add M bw2)) (s3 rfl rfl rfl) ?_ ?_
  · exact ⟨fun s hs => absurd hs (Nat.not_lt_zero _), hd, own_nil, fun b hb => by simp [Value.ownBlock] at hb, h1, h3, hn, Lw, hsub, hE, hB⟩
  rintro t v M1 w5 ⟨hpast, hd, ho, hne, h1, h3, hn, Lw, hsub, hE, hB⟩
  refine cB (q0 (lP 1 tK rfl (q1 (cS (q0 ?_)))))
  refine lC (oD tK (h1.cell 0 _ rfl) rfl rfl rfl rfl rfl ?_)
  refine lC (o_len tK hn rfl rfl rfl rfl rfl ?_)
  refine lP 1 tK rfl (q1 (cB ?_))
  have hil := ordS_len needs t
  have htl := ordS_t_le hpast
  have hol := ordS_out needs t
  refine c_loop (X := Nat) (fun i => [(1, .pointer (some ⟨b1, 0, none⟩)), (3, .pointer (some ⟨b3, 0, none⟩)), (4, v), (5, .int .i64 (-1)), (12, vn), (13, .int .i64 (needs.length : Int)), (14, .int .i64 (i : Nat))]) (fun i w' => w5 = w' ∧ i ≤ needs.length ∧ ∀ j, j < i → cand needs (ordS needs t).1 j = false) (fun i => needs.length - i) (0) (s7 rfl rfl rfl rfl rfl rfl rfl) ?_ ?_
  · exact ⟨rfl, Nat.zero_le _, fun j hj => absurd hj (Nat.not_lt_zero _)⟩
  rintro i _ ⟨rfl, hi, hno⟩
  refine q0 (lP 1 tK rfl (q1 (cS ?_)))
  refine cP _ rfl (fun h => ?_) (fun h => ?_)
  · have hin : i < needs.length := by omega
    have hii : i < (ordS needs t).1.length := by omega
    refine cK (xS (cS (cB (q0 (lP 1 tK rfl ?_)))))
    refine lC (o_ixS tK hn (gE hin) rfl rfl rfl rfl rfl rfl rfl rfl rfl ?_)
    intro b4 o4 vs hs hat4
    replace hs : Sl M1 w5 vs needs[i] := hs
    replace hat4 := hat4.sl hs
    have hcl : ∀ x ∈ needs[i], Calls Tryz.prog 18 ([Value.int .i64 x] ++ [Value.pointer (some ⟨b1, 0, none⟩), Value.pointer (some ⟨b3, 0, none⟩)]).toArray w5 (Ret fun r w' => r = .bool (waits needs (ordS needs t).1 x) ∧ w5 = w') := fun x _ => order1_spec M1 _ w.heap.size b1 b3 vn _ needs _ x h1 h3 hn hd hil
    refine lC (oD tK (hat4.cell 0 _ rfl) rfl rfl rfl rfl rfl ?_)
    refine lP 2 tK rfl (q1 (q0 (lP 2 tK rfl ?_)))
    refine lC (oK fo17 rfl rfl rfl (containsFunc_spec M1 _ vs needs[i] 18 [(.pointer (some ⟨b1, 0, none⟩) : Value), (.pointer (some ⟨b3, 0, none⟩) : Value)] (waits needs (ordS needs t).1) hs fo18 hcl) ?_)
    rintro _ _ ⟨rfl, rfl⟩
    refine lP 2 tK rfl (q1 (q0 ?_))
    refine lC (oD tK (h3.cell 0 _ rfl) rfl rfl rfl rfl rfl ?_)
    refine lP 1 tK rfl ?_
    refine lC (o_ixO tK hd (gE hii) rfl rfl rfl rfl rfl rfl rfl rfl rfl ?_)
    intro b5 u5 hob5 hr5 hat5
    obtain rfl := hr5
    refine lC (oD tK (hat5.cell 0 _ rfl) rfl rfl rfl rfl rfl ?_)
    refine lP 2 tK rfl ?_
    refine l_splitB 28 _ rfl (fun h2 => ?_) (fun h2 => ?_)
    · refine lP 2 tK rfl (q1 ?_)
      refine c_ifB _ rfl (fun h3x => ?_) (fun h3x => ?_)
      · have hc : cand needs (ordS needs t).1 i = true := by simp [cand, hii, hin, h2, h3x]
        have hnx := next_first hin hc hno
        refine q0 (lP 2 tK rfl (q1 (c_exit (x_blkO rfl (xE (xE (x_blkE (xS (cS (q0 (lP 2 tK rfl (q1 ?_))))))))))))
        refine cP _ rfl (fun h4 => ?_) (fun h4 => ?_)
        · exact absurd h4 (by omega)
        refine cK (xS (q0 ?_))
        refine lC (oD tK (h3.cell 0 _ rfl) rfl rfl rfl rfl rfl ?_)
        refine lP 1 tK rfl ?_
        refine lC (o_ixO tK hd (gE hii) rfl rfl rfl rfl rfl rfl rfl rfl rfl ?_)
        intro b6 u6 hob6 hr6 hat6
        obtain rfl : bw2 = b6 := by simpa [Value.ownBlock] using hob6
        refine lC (o_stO tK hd hob6 hii (z := true) rfl Lw rfl rfl rfl rfl rfl rfl ?_)
        intro w6 hw6 sw6 frw6
        replace ho := ho.sp sw6 (fun x hx => frw6 x (ho.lt x hx).2 (hne x hx))
        replace hE := hE.trans sw6.below
        replace h1 := h1.sp sw6
        replace h3 := h3.sp sw6
        replace hn := hn.sp sw6
        replace hsub := sw6.sb hsub
        replace Lw := sw6.low
        replace hB := sw6.z hB
        replace hd := hw6
        clear hw6
        have hbd : bw2 < w6.heap.size := (hd.lt bw2 rfl).2
        refine q1 (cG (lP 2 tK rfl ?_))
        refine lC (o_bs tK rfl rfl rfl rfl rfl rfl rfl (sz1 rfl) rfl rfl rfl ?_)
        intro bw7 w7 qbw7 ew7 hbw7
        have nbw7 := nO Lw qbw7
        replace hd := hd.Y Lw hB ew7
        replace ho := ho.Y Lw hB ew7
        replace hE := ew7.bl hE hB
        replace h1 := h1.Y ew7
        replace h3 := h3.Y ew7
        replace hn := hn.Y ew7
        replace Lw := Lw.Y ew7
        replace hB := ew7.z hB
        refine lC (o_app1 tK ho hbw7 nbw7 ⟨rfl, by unfold I64; omega⟩ Lw hB rfl rfl rfl rfl rfl rfl rfl (by omega) (by show (_ + _) * 8 ≤ _; omega) rfl rfl ?_)
        intro vw8 w8 Mw8 hw8 sw8 frw8 blw8
        replace hd := hd.sp sw8 (fun x hx => frw8 x (hd.lt x hx).2 (fun e => hne x e.symm (by simpa [Value.ownBlock] using hx.symm)))
        replace hE := hE.trans sw8.below
        replace h1 := h1.sp sw8
        replace h3 := h3.sp sw8
        replace hn := hn.sp sw8
        replace hsub := sw8.sb hsub
        replace Lw := sw8.low
        replace hB := sw8.z hB
        replace ho := hw8
        clear hw8
        refine lP 1 tK rfl (q2 ?_)
        exact x_round3 (t + 1) (vw8) (Mw8) (s3 rfl rfl rfl) ⟨past_step hpast hnx, by rw [ordS_some hnx]; exact hd, by rw [ordS_some hnx]; exact ho, (fun x hx => (blw8 x hx).elim (hne x) (fun h => by have := ew7.size; omega)), h1, h3, hn, Lw, hsub, hE, hB⟩ (by omega)
      refine cK (x_blk (xS (cG ?_)))
      refine lC (o_ai rfl rfl rfl (by omega) rfl rfl ?_)
      refine lP 1 tK rfl (lN ?_)
      exact x_round (i + 1) (s7 rfl rfl rfl rfl rfl rfl rfl) ⟨rfl, by omega, cand_step hno (by simp [cand, h3x, hin])⟩ (by omega)
    refine lP 2 tK rfl (q1 (c_ifF rfl (cK (x_blk (xS (cG ?_))))))
    refine lC (o_ai rfl rfl rfl (by omega) rfl rfl ?_)
    refine lP 1 tK rfl (lN ?_)
    exact x_round (i + 1) (s7 rfl rfl rfl rfl rfl rfl rfl) ⟨rfl, by omega, cand_step hno (by simp [cand, hii, h2])⟩ (by omega)
  refine c_exit (xE (xE (x_blkE (xS (cS (q0 (lP 2 tK rfl (q1 (cI rfl (q0 (lP 2 tK rfl (q1 (cR (xR (xB (xR (xB (x1_ rfl rfl ?_))))))))))))))))))
  rw [orderL_stop hpast (next_none (fun j hj => hno j (by omega)))] at ho
  exact ⟨ho.sl (by have := ordS_out needs needs.length; unfold orderL; omega) hlow0 hsub, hE⟩
theorem ex_order : orderL ([[1], [2], [1]] : List (List Int)) = [] := by decide
theorem ex_edge {u v : Nat} (h : Rw.Edge ([[1], [2], [1]] : List (List Int)) u v) : (u = 0 ∧ v = 1) ∨ (u = 1 ∧ v = 2) ∨ (u = 2 ∧ v = 1) := by
  obtain ⟨l, hl, hm, hv⟩ := h
  match u, hl with
  | 0, hl => simp at hl; subst hl; simp at hm; omega
  | 1, hl => simp at hl; subst hl; simp at hm; omega
  | 2, hl => simp at hl; subst hl; simp at hm; omega
  | u + 3, hl => simp at hl
theorem ex_circles : circlesL ([[1], [2], [1]] : List (List Int)) = [1, 2] := by
  have h0 : ∀ {u v : Nat}, Rch ([[1], [2], [1]] : List (List Int)) u v → v ≠ 0 := by
    intro u v h
    cases h with
    | one e => rcases ex_edge e with h | h | h <;> omega
    | more _ e => rcases ex_edge e with h | h | h <;> omega
  have e1 : Rw.Edge ([[1], [2], [1]] : List (List Int)) 1 2 := ⟨[2], rfl, by simp, by simp⟩
  have e2 : Rw.Edge ([[1], [2], [1]] : List (List Int)) 2 1 := ⟨[1], rfl, by simp, by simp⟩
  have h1 : Rch ([[1], [2], [1]] : List (List Int)) 1 1 := .more (.one e1) e2
  have h2 : Rch ([[1], [2], [1]] : List (List Int)) 2 2 := .more (.one e2) e1
  have n0 : ¬ Rch ([[1], [2], [1]] : List (List Int)) 0 0 := fun h => h0 h rfl
  simp [circlesL, pickUpto, List.range_succ, h1, h2, n0]
theorem alive_spec (M : Nat → Prop) (w : World) (hlow0 : Low M w) :
    Calls Tryz.prog 4 #[] w (Ret fun r w' => r = .bool true ∧ Ext w w') := by
  have Lw := hlow0
  have hE := Below.refl w.heap.size w
  have hB := lR w.heap.size
  refine cN (n := 16) Tryz.func4 rfl rfl rfl ?_
  refine q0 (lP 1 tK rfl (q1 (q0 ?_)))
  refine lC (o_bs tK rfl rfl rfl rfl rfl rfl rfl (sz1 rfl) rfl rfl rfl ?_)
  intro bw1 w1 qbw1 ew1 hbw1
  have nbw1 := nO Lw qbw1
  replace hE := ew1.bl hE hB
  replace Lw := Lw.Y ew1
  replace hB := ew1.z hB
  have h1 : Sl M w1 (.slice (some ⟨bw1, 0, none⟩) 1 1) ([1] : List Int) := lit_sl (us := [.int .i64 1]) (l := ([1] : List Int)) hbw1 nbw1 ⟨⟨rfl, by unfold I64; omega⟩, trivial⟩ (by simp)
  refine lC (o_bs tK rfl rfl rfl rfl rfl rfl rfl (sz1 rfl) rfl rfl rfl ?_)
  intro bw2 w2 qbw2 ew2 hbw2
  have nbw2 := nO Lw qbw2
  replace hE := ew2.bl hE hB
  replace h1 := h1.Y ew2
  replace Lw := Lw.Y ew2
  replace hB := ew2.z hB
  have h2 : Sl M w2 (.slice (some ⟨bw2, 0, none⟩) 1 1) ([2] : List Int) := lit_sl (us := [.int .i64 2]) (l := ([2] : List Int)) hbw2 nbw2 ⟨⟨rfl, by unfold I64; omega⟩, trivial⟩ (by simp)
  refine lC (o_bs tK rfl rfl rfl rfl rfl rfl rfl (sz1 rfl) rfl rfl rfl ?_)
  intro bw3 w3 qbw3 ew3 hbw3
  have nbw3 := nO Lw qbw3
  replace hE := ew3.bl hE hB
  replace h1 := h1.Y ew3
  replace h2 := h2.Y ew3
  replace Lw := Lw.Y ew3
  replace hB := ew3.z hB
  have h3 : Sl M w3 (.slice (some ⟨bw3, 0, none⟩) 1 1) ([1] : List Int) := lit_sl (us := [.int .i64 1]) (l := ([1] : List Int)) hbw3 nbw3 ⟨⟨rfl, by unfold I64; omega⟩, trivial⟩ (by simp)
  refine lC (o_bs tK rfl rfl rfl rfl rfl rfl rfl (by intro v hv; simp at hv; rcases hv with rfl | rfl | rfl <;> rfl) rfl rfl rfl ?_)
  intro bw4 w4 qbw4 ew4 hbw4
  have nbw4 := nO Lw qbw4
  replace hE := ew4.bl hE hB
  replace h1 := h1.Y ew4
  replace h2 := h2.Y ew4
  replace h3 := h3.Y ew4
  replace Lw := Lw.Y ew4
  replace hB := ew4.z hB
  have hl : Sl M w4 (.slice (some ⟨bw4, 0, none⟩) 3 3) ([[1], [2], [1]] : List (List Int)) := lit_sl (us := [(.slice (some ⟨bw1, 0, none⟩) 1 1), (.slice (some ⟨bw2, 0, none⟩) 1 1), (.slice (some ⟨bw3, 0, none⟩) 1 1)]) (l := ([[1], [2], [1]] : List (List Int))) hbw4 nbw4 ⟨h1, h2, h3, trivial⟩ (by simp)
  refine lP 1 tK rfl (q1 (q0 (lP 1 tK rfl ?_)))
  refine lC (oK fo9 rfl rfl rfl (circles_spec M _ _ ([[1], [2], [1]] : List (List Int)) hl Lw (by simp)) ?_)
  rintro r1 w5 ⟨hr1, ew5⟩
  rw [ex_circles] at hr1
  replace hE := ew5.bl hE hB
  replace hl := hl.Y ew5
  replace Lw := Lw.Y ew5
  replace hB := ew5.z hB
  refine lC (o_bs tK rfl rfl rfl rfl rfl rfl rfl (by intro v hv; simp at hv; rcases hv with rfl | rfl | rfl <;> rfl) rfl rfl rfl ?_)
  intro bw6 w6 qbw6 ew6 hbw6
  have nbw6 := nO Lw qbw6
  replace hE := ew6.bl hE hB
  replace hl := hl.Y ew6
  replace hr1 := hr1.Y ew6
  replace Lw := Lw.Y ew6
  replace hB := ew6.z hB
  have h2 : Sl M w6 (.slice (some ⟨bw6, 0, none⟩) 2 2) ([1, 2] : List Int) := lit_sl (us := [.int .i64 1, .int .i64 2]) (l := ([1, 2] : List Int)) hbw6 nbw6 ⟨⟨rfl, by unfold I64; omega⟩, ⟨rfl, by unfold I64; omega⟩, trivial⟩ (by simp)
  refine lC (oK fo8 rfl rfl rfl (sameInts_spec M _ _ _ _ _ hr1 h2) ?_)
  rintro r2 w7 ⟨hr2, ew7⟩
  obtain rfl : r2 = .bool true := by rw [hr2]; rfl
  replace hE := ew7.bl hE hB
  replace hl := hl.Y ew7
  replace hr1 := hr1.Y ew7
  replace h2 := h2.Y ew7
  replace Lw := Lw.Y ew7
  replace hB := ew7.z hB
  refine lP 2 tK rfl ?_
  refine lC (oK fo10 rfl rfl rfl (order_spec M _ _ ([[1], [2], [1]] : List (List Int)) hl Lw (by simp)) ?_)
  rintro r3 w8 ⟨hr3, ew8⟩
  rw [ex_order] at hr3
  replace hE := ew8.bl hE hB
  replace hl := hl.Y ew8
  replace hr1 := hr1.Y ew8
  replace h2 := h2.Y ew8
  replace Lw := Lw.Y ew8
  replace hB := ew8.z hB
  refine lC (o_len tK hr3 rfl rfl rfl rfl rfl ?_)
  refine lP 3 tK rfl (q1 (cR (x1_ rfl rfl ?_)))
  exact ⟨rfl, hE⟩
end Go.Proofs.YtpoahmeacjggfaaGreat
namespace Rw
open Go Go.RowKit Go.Sort
def srtI (l : List Int) : List Int := l.mergeSort fun x y => decide (x ≤ y)
theorem srtI_len (l : List Int) : (srtI l).length = l.length := List.length_mergeSort _
section
variable {e B b cap n : Nat} {M : Nat → Prop} {w : World} {l : List Int} {os : Array Obj}
theorem flat_ints {M : Nat → Prop} {w : World} : ∀ {us : List Value} {l : List Int}, Rs M w us l → flat us = l.map (fun x => .int .i64 x)
  | [], [], _ => rfl
  | u :: us, x :: l, h => by
    obtain ⟨h1, _⟩ := h.1
    subst h1
    show (Value.int .i64 x).cells.toList ++ flat us = _
    rw [flat_ints h.2]; rfl
  | [], _ :: _, h => h.elim
  | _ :: _, [], h => h.elim
theorem rs_ints {M : Nat → Prop} {w : World} : ∀ {l : List Int}, (∀ x ∈ l, I64 x) → Rs M w (l.map fun x => .int .i64 x) l
  | [], _ => trivial
  | x :: l, h => ⟨⟨rfl, h x List.mem_cons_self⟩, rs_ints fun y hy => h y (List.mem_cons_of_mem _ hy)⟩
theorem rs_i64 {M : Nat → Prop} {w : World} : ∀ {us : List Value} {l : List Int}, Rs M w us l → ∀ x ∈ l, I64 x
  | [], [], _, x, hx => by cases hx
  | _ :: _, y :: l, h, x, hx => by
    rcases List.mem_cons.1 hx with rfl | hx
    · exact h.1.2
    · exact rs_i64 h.2 x hx
  | [], _ :: _, h, _, _ => h.elim
  | _ :: _, [], h, _, _ => h.elim
theorem own_holds (h : OwnSl e B M w (.slice (some ⟨b, 0, none⟩) l.length cap) l) : Holds (Value.int .i64) w b 0 l.toArray ∧ b < w.heap.size := by
  obtain ⟨us, hr, hs⟩ := h.row
  have hlt := (hr.lt b rfl).2
  have hf := flat_ints hs
  refine ⟨fun j hj => ⟨?_, ?_⟩, hlt⟩
  · have hj' : j < l.length := by simpa using hj
    have := hr.cells (g := b) rfl j (.int .i64 l[j]) (by rw [hf, List.getElem?_map, gE hj']; rfl)
    rw [addr_add] at this
    rw [this]
    congr 2
    rw [getElem!_pos _ j hj]; simp
  · rcases hr.2 with ⟨h0, _⟩ | ⟨g, cap', cur, hv, _, hg, _⟩
    · cases h0
    · cases hv
      unfold World.frozen?
      rw [hg]; simp
/-- The world behind it. -/
def srtW (w : World) (b n : Nat) (l : List Int) (os : Array Obj) : World := grow (putRow (Value.int .i64) (ahead w n) b 0 (srtI l).toArray) os
theorem srtW_heap (w : World) (b n : Nat) (l : List Int) (os : Array Obj) : (srtW w b n l os).heap = w.heap.modify b (onCells (putCells (Value.int .i64) 0 (srtI l).toArray)) ++ os := rfl
theorem srtW_size : w.heap.size ≤ (srtW w b n l os).heap.size := by rw [srtW_heap]; simp
theorem srtW_other {x : Nat} (hx : x < w.heap.size) (hn : x ≠ b) : (srtW w b n l os).heap[x]? = w.heap[x]? := by
  have hn' : ¬ b = x := fun e => hn e.symm
  rw [srtW_heap, Array.getElem?_append_left (by simpa using hx), Array.getElem?_modify, if_neg hn']
theorem own_sorted (h : OwnSl e B M w (.slice (some ⟨b, 0, none⟩) l.length cap) l) : OwnSl e B M (srtW w b n l os) (.slice (some ⟨b, 0, none⟩) l.length cap) (srtI l) := by
  obtain ⟨us, hr, hs⟩ := h.row
  have hi := rs_i64 hs
  have hp : ∀ x ∈ srtI l, I64 x := fun x hx => hi x ((List.mergeSort_perm _ _).mem_iff.1 hx)
  have hlen := srtI_len l
  have hlt := (hr.lt b rfl).2
  refine ⟨⟨(srtI l).map fun x => .int .i64 x, ?_, rs_ints hp⟩, h.inM⟩
  rw [flat_ints (rs_ints (M := M) (w := srtW w b n l os) hp)]
  rcases hr.2 with ⟨h0, _⟩ | ⟨g, cap', cur, hv, hB, hg, hc, hm, hsz, _⟩
  · cases h0
  · cases hv
    refine ⟨by simp [Rep.sz], .inr ⟨b, cap, putCells (Value.int .i64) 0 (srtI l).toArray cur, by rw [hlen], hB, ?_, by omega, hm, by simpa [putCells] using hsz, ?_⟩⟩
    · rw [srtW_heap, Array.getElem?_append_left (by simpa using hlt), Array.getElem?_modify, if_pos rfl, hg]; rfl
    · apply List.ext_getElem?
      intro j
      have h1 : Rep.sz Int = 1 := rfl
      rw [h1, Nat.mul_one] at hsz ⊢
      by_cases hj : j < l.length
      · have hj2 : j < (srtI l).length := by omega
        have hj3 : j < cur.size := by omega
        rw [List.getElem?_take_of_lt hj2, List.getElem?_map, gE hj2, Array.getElem?_toList]
        unfold putCells
        rw [Array.getElem?_mapIdx, Array.getElem?_eq_getElem hj3, Option.map_some, if_pos ⟨by omega, by simpa using hj2⟩]
        congr 2
        rw [getElem!_pos _ _ (by simpa using hj2)]; simp
      · rw [List.getElem?_eq_none (by rw [List.length_take]; omega), List.getElem?_eq_none (by simp; omega)]
theorem srtW_stp (h : OwnSl e B M w (.slice (some ⟨b, 0, none⟩) l.length cap) l) (Lw : Low M w) : Stp B M M w (srtW w b n l os) := by
  obtain ⟨us, hr, _⟩ := h.row
  have hb := hr.lt b rfl
  refine ⟨⟨srtW_size, fun x hx hn => srtW_other hx fun e => hn (e ▸ h.inM b rfl)⟩, fun _ _ h => h, fun _ h => h, fun x hx => lT (Lw x hx) srtW_size, ⟨rfl, rfl, rfl, srtW_size, fun k hk => srtW_other (lT hk (Nat.le_trans hb.1 (Nat.le_of_lt hb.2))) (by omega)⟩⟩
end
theorem MRows.inPlace {α : Type} [Rep α] {e B : Nat} {M : Nat → Prop} {w w' : World} {vt : Value} {vs : List Raw} {rows : List (List α)} (h : MRows e B M w vt vs rows) {i : Nat} {x : Raw} {r : List α} (hx : vs[i]? = some x) (s : Stp B M M w w')
    (fr : ∀ y, y < w.heap.size → (∀ b, x.v.ownBlock = some b → y ≠ b) → w'.heap[y]? = w.heap[y]?) (hr : OwnSl e B M w' x.v r) : MRows e B M w' vt vs (rows.set i r) := by
  refine ⟨by rw [List.length_set]; exact h.len, fun j y q hy hq => ?_, h.dis, h.top⟩
  by_cases e' : i = j
  · subst e'
    rw [hx] at hy
    cases hy
    rw [List.getElem?_set] at hq
    split at hq
    · split at hq
      · cases hq; exact hr
      · cases hq
    · rename_i hn; exact absurd rfl hn
  · rw [List.getElem?_set_ne e'] at hq
    exact (h.row j y q hy hq).sp s fun b hb => fr b (h.lt hy hb).2 fun b' hb' e2 => h.dis i j x y b' e' hx hy hb' (e2 ▸ hb)
end Rw
namespace Go.Proofs
open Go.RowKit Go.Sort Go.Shelf
set_option maxRecDepth 100000
def Tryz.sort13_ren : Go.Shelf.Ren := ⟨fun | 5 => 13 | 8 => 26 | 7 => 25 | 19 => 46 | 20 => 47 | 10 => 37 | 11 => 38 | 12 => 39 | 13 => 40 | 14 => 41 | 15 => 42 | 16 => 43 | 17 => 44 | 18 => 45 | 30 => 61 | 31 => 62 | 32 => 63 | 33 => 64 | 34 => 65 | 35 => 66 | 40 => 88 | n => n, fun | 23 => 35 | 25 => 3 | 3 => 3 | 32 => 63 | 22 => 35 | 0 => 0 | 44 => 81 | 46 => 83 | 4 => 4 | 36 => 74 | 35 => 73 | 41 => 43 | 5 => 5 | 9 => 9 | 53 => 96 | 57 => 100 | 63 => 115 | 64 => 116 | n => n, fun | n => n⟩
theorem Tryz.sort13 : Go.Proofs.SlLaysM.n5 Tryz.prog Tryz.sort13_ren := {
  mixed := by kernel_rfl
  f5 := ⟨Tryz.f13.name, by decide, Tryz.func13.trans (congrArg some (by kernel_rfl))⟩
  f7 := ⟨Tryz.f25.name, by decide, Tryz.func25.trans (congrArg some (by kernel_rfl))⟩
  f8 := Tryz.func26.trans (congrArg some (by kernel_rfl))
  f10 := ⟨Tryz.f37.name, by decide, Tryz.func37.trans (congrArg some (by kernel_rfl))⟩
  f11 := ⟨Tryz.f38.name, by decide, Tryz.func38.trans (congrArg some (by kernel_rfl))⟩
  f12 := ⟨Tryz.f39.name, by decide, Tryz.func39.trans (congrArg some (by kernel_rfl))⟩
  f13 := ⟨Tryz.f40.name, by decide, Tryz.func40.trans (congrArg some (by kernel_rfl))⟩
  f14 := ⟨Tryz.f41.name, by decide, Tryz.func41.trans (congrArg some (by kernel_rfl))⟩
  f15 := ⟨Tryz.f42.name, by decide, Tryz.func42.trans (congrArg some (by kernel_rfl))⟩
  f16 := ⟨Tryz.f43.name, by decide, Tryz.func43.trans (congrArg some (by kernel_rfl))⟩
  f17 := ⟨Tryz.f44.name, by decide, Tryz.func44.trans (congrArg some (by kernel_rfl))⟩
  f18 := ⟨Tryz.f45.name, by decide, Tryz.func45.trans (congrArg some (by kernel_rfl))⟩
  f19 := Tryz.func46.trans (congrArg some (by kernel_rfl))
  f20 := Tryz.func47.trans (congrArg some (by kernel_rfl))
  f30 := ⟨Tryz.f61.name, by decide, Tryz.func61.trans (congrArg some (by kernel_rfl))⟩
  f31 := Tryz.func62.trans (congrArg some (by kernel_rfl))
  f32 := Tryz.func63.trans (congrArg some (by kernel_rfl))
  f33 := ⟨Tryz.f64.name, by decide, Tryz.func64.trans (congrArg some (by kernel_rfl))⟩
  f34 := ⟨Tryz.f65.name, by decide, Tryz.func65.trans (congrArg some (by kernel_rfl))⟩
  f35 := ⟨Tryz.f66.name, by decide, Tryz.func66.trans (congrArg some (by kernel_rfl))⟩
  f40 := ⟨Tryz.f88.name, by decide, Tryz.func88.trans (congrArg some (by kernel_rfl))⟩
  t0 := Tryz.underlying0
  a0 := Tryz.isAgg0
  z0 := Tryz.sizeOf0
  v0 := Tryz.zeroValue0
  t3 := Tryz.underlying3
  a3 := Tryz.isAgg3
  z3 := Tryz.sizeOf3
  v3 := Tryz.zeroValue3
  t4 := Tryz.underlying4
  a4 := Tryz.isAgg4
  z4 := Tryz.sizeOf4
  v4 := Tryz.zeroValue4
  t5 := Tryz.underlying5
  a5 := Tryz.isAgg5
  z5 := Tryz.sizeOf5
  v5 := Tryz.zeroValue5
  t9 := Tryz.underlying9
  a9 := Tryz.isAgg9
  z9 := Tryz.sizeOf9
  v9 := Tryz.zeroValue9
  t22 := Tryz.underlying35
  a22 := Tryz.isAgg35
  z22 := Tryz.sizeOf35
  v22 := Tryz.zeroValue35
  t23 := Tryz.underlying35
  a23 := Tryz.isAgg35
  z23 := Tryz.sizeOf35
  v23 := Tryz.zeroValue35
  t25 := Tryz.underlying3
  a25 := Tryz.isAgg3
  z25 := Tryz.sizeOf3
  v25 := Tryz.zeroValue3
  t32 := Tryz.underlying63
  a32 := Tryz.isAgg63
  z32 := Tryz.sizeOf63
  v32 := Tryz.zeroValue63
  t35 := Tryz.underlying73
  a35 := Tryz.isAgg73
  z35 := Tryz.sizeOf73
  v35 := Tryz.zeroValue73
  t36 := Tryz.underlying74
  a36 := Tryz.isAgg74
  z36 := Tryz.sizeOf74
  v36 := Tryz.zeroValue74
  t41 := Tryz.underlying43
  a41 := Tryz.isAgg43
  z41 := Tryz.sizeOf43
  v41 := Tryz.zeroValue43
  t44 := Tryz.underlying81
  a44 := Tryz.isAgg81
  z44 := Tryz.sizeOf81
  v44 := Tryz.zeroValue81
  t46 := Tryz.underlying83
  a46 := Tryz.isAgg83
  z46 := Tryz.sizeOf83
  v46 := Tryz.zeroValue83
  t53 := Tryz.underlying96
  a53 := Tryz.isAgg96
  z53 := Tryz.sizeOf96
  v53 := Tryz.zeroValue96
  t57 := Tryz.underlying100
  a57 := Tryz.isAgg100
  z57 := Tryz.sizeOf100
  v57 := Tryz.zeroValue100
  t63 := Tryz.underlying115
  a63 := Tryz.isAgg115
  z63 := Tryz.sizeOf115
  v63 := Tryz.zeroValue115
  t64 := Tryz.underlying116
  a64 := Tryz.isAgg116
  z64 := Tryz.sizeOf116
  v64 := Tryz.zeroValue116 }
theorem Tryz.sortInts_13 (blk off cap : Nat) (zs : List Int) (w : World) (hH : Holds (Value.int .i64) w blk off zs.toArray) (hblk : blk < w.heap.size) (hsz : zs.length < 4611686018427387904) :
    Calls Tryz.prog 13 #[.slice (some ⟨blk, off, none⟩) zs.length cap] w fun e w' =>
      e = .returned (.tuple #[]) ∧ ∃ n os, w' = grow (putRow (Value.int .i64) (Sort.ahead w n) blk off (zs.mergeSort fun x y => decide (x ≤ y)).toArray) os :=
  AnyM.slices_Sort_int Tryz.sort13 blk off cap zs w hH hblk hsz
theorem Tryz.sortNone_13 (p : Option Addr) (cap : Nat) (w : World) : Calls Tryz.prog 13 #[.slice p 0 cap] w fun e w' => e = .returned (.tuple #[]) ∧ w' = w := AnyM.slices_Sort_int_none Tryz.sort13 p cap w
end Go.Proofs
namespace Rw
open Go Go.RowKit
theorem ba_beq (x y : ByteArray) : (x == y) = true ↔ x = y := by
  cases x with | mk a => cases y with | mk b =>
  show (a == b) = true ↔ _
  simp
/-- Keys: their values, compared at once. -/
class Key (κ : Type) where
  val : κ → Value
  fit : TypeDesc → Prop
  same : ∀ {d : TypeDesc}, fit d → ∀ x y : κ, ∃ b : Bool, Instr.sameNow d (val x) (val y) = some b ∧ (b = true ↔ x = y)
  bits : ∀ x : κ, Instr.sameBits 10000 (val x) (val x) = true
  chk : ∀ {P : Program} {t : TypeId} {d : TypeDesc}, P.underlying t = some d → fit d → ∀ (e : Bool) (x : κ) (w : World), (Instr.checkKey e 10000 t (val x)).run P w = .ok () w
instance : Key Int where
  val := fun n => .int .i64 n
  fit := fun d => d = .int .i64
  same := by
    rintro d rfl x y
    exact ⟨x == y, by simp [Instr.sameNow], by simp⟩
  bits := by intro x; unfold Instr.sameBits; simp
  chk := by
    rintro P t d hd rfl e x w
    show (Instr.checkKey e (9999 + 1) t _).run P w = _
    unfold Instr.checkKey
    simp [run_underlying hd]
instance : Key ByteArray where
  val := fun s => .string s
  fit := fun d => d = .string
  same := by
    rintro d rfl x y
    exact ⟨x == y, rfl, ba_beq x y⟩
  bits := by intro x; unfold Instr.sameBits; exact (ba_beq x x).2 rfl
  chk := by
    rintro P t d hd rfl e x w
    show (Instr.checkKey e (9999 + 1) t _).run P w = _
    unfold Instr.checkKey
    simp [run_underlying hd]
/-- A map's block: its entries, in a row, are these. -/
structure MapL {κ ν : Type} [Key κ] (va : ν → Value) (w : World) (b : Nat) (l : List (κ × ν)) : Prop where
  ex : ∃ es clock, w.heap[b]? = some (.map es clock) ∧ es.toList.map (fun e => (e.key, e.val)) = l.map (fun p => (Key.val p.1, va p.2)) ∧ (∀ e ∈ es.toList, e.born < clock) ∧ (es.toList.map (·.born)).Nodup
  keys : (l.map (·.1)).Nodup
/-- What a map holds. -/
def getK {κ ν : Type} [DecidableEq κ] (l : List (κ × ν)) (k : κ) : Option ν := (l.find? (fun p => decide (p.1 = k))).map (·.2)
def putK {κ ν : Type} [DecidableEq κ] (l : List (κ × ν)) (k : κ) (v : ν) : List (κ × ν) := match l.findIdx? (fun p => decide (p.1 = k)) with
  | some i => l.set i (k, v)
  | none => l ++ [(k, v)]
section
variable {κ ν : Type} [Key κ] [DecidableEq κ] {va : ν → Value} {w w' : World} {b : Nat} {l : List (κ × ν)}
theorem MapL.lt {κ ν : Type} [Key κ] {va : ν → Value} {w : World} {b : Nat} {l : List (κ × ν)} (h : MapL va w b l) : b < w.heap.size := by
  obtain ⟨es, clock, hb, _⟩ := h.ex
  exact (Array.getElem?_eq_some_iff.1 hb).1
theorem MapL.keep {κ ν : Type} [Key κ] {va : ν → Value} {w w' : World} {b : Nat} {l : List (κ × ν)} (h : MapL va w b l) (e : w'.heap[b]? = w.heap[b]?) : MapL va w' b l := by
  obtain ⟨es, clock, hb, h2⟩ := h.ex
  exact ⟨⟨es, clock, e.trans hb, h2⟩, h.keys⟩
theorem MapL.Y {κ ν : Type} [Key κ] {va : ν → Value} {w w' : World} {b : Nat} {l : List (κ × ν)} (h : MapL va w b l) (e : Ext w w') : MapL va w' b l := h.keep (e.block b h.lt)
theorem findNow_spec {d : TypeDesc} (hd : Key.fit κ d) (k : κ) : ∀ (es : List MapEntry) (l : List (κ × ν)) (i : Nat), es.map (fun e => (e.key, e.val)) = l.map (fun p => (Key.val p.1, va p.2)) →
    Instr.findNow d (Key.val k) es i = some ((l.findIdx? (fun p => decide (p.1 = k))).bind fun j => (l[j]?).map fun p => (i + j, va p.2))
  | [], [], i, _ => by simp [Instr.findNow]
  | e :: es, p :: l, i, h => by
    simp only [List.map_cons, List.cons.injEq, Prod.mk.injEq] at h
    obtain ⟨⟨h1, h2⟩, h3⟩ := h
    unfold Instr.findNow
    rw [h1]
    obtain ⟨c, hc, hck⟩ := Key.same hd k p.1
    rw [hc, List.findIdx?_cons]
    cases c with
    | true =>
      have : p.1 = k := (hck.1 rfl).symm
      simp [this, h2]
    | false =>
      have hne : ¬ p.1 = k := fun e => by have := hck.2 e.symm; cases this
      simp only [hne, decide_false]
      rw [findNow_spec hd k es l (i + 1) h3]
      cases hf : l.findIdx? (fun p => decide (p.1 = k)) with
      | none => simp
      | some j => simp [Nat.add_assoc, Nat.add_comm 1 j]
  | [], _ :: _, _, h => by simp at h
  | _ :: _, [], _, h => by simp at h
theorem getK_idx {κ ν : Type} [DecidableEq κ] (l : List (κ × ν)) (k : κ) : getK l k = (l.findIdx? (fun p => decide (p.1 = k))).bind fun j => (l[j]?).map (·.2) := by
  induction l with
  | nil => rfl
  | cons p l ih =>
    unfold getK at ih ⊢
    rw [List.find?_cons, List.findIdx?_cons]
    by_cases h : p.1 = k
    · simp [h]
    · simp only [h, decide_false]
      rw [ih]
      cases hf : l.findIdx? (fun p => decide (p.1 = k)) with
      | none => simp
      | some j => simp
theorem find_run {P : Program} {t : TypeId} {d : TypeDesc} (hd : P.underlying t = some d) (hf : Key.fit κ d) (k : κ) (h : MapL va w b l) {es : Array MapEntry} {clock : Nat} (hb : w.heap[b]? = some (.map es clock)) :
    (Instr.findKey t (Key.val k) es.toList).run P w = .ok ((l.findIdx? (fun p => decide (p.1 = k))).bind fun j => (l[j]?).map fun p => (j, va p.2)) w := by
  obtain ⟨es', clock', hb', hl, _⟩ := h.ex
  rw [hb] at hb'
  cases hb'
  have := findNow_spec hf k es.toList l 0 hl
  simp only [Nat.zero_add] at this
  unfold Instr.findKey
  simp only [Sem.run_bind, run_underlying hd, Result.andThen_ok, this, Sem.run_pure]
theorem getK_put {κ ν : Type} [DecidableEq κ] (l : List (κ × ν)) (k : κ) (v : ν) (x : κ) : getK (putK l k v) x = if x = k then some v else getK l x := by
  unfold putK
  induction l with
  | nil => by_cases h : x = k <;> simp [getK, h, eq_comm]
  | cons p l ih =>
    rw [List.findIdx?_cons]
    by_cases hp : p.1 = k
    · simp only [hp, decide_true, if_true]
      unfold getK
      by_cases h : x = k
      · subst h; simp [hp]
      · have h' : ¬ k = x := fun e => h e.symm
        simp [hp, h, h']
    · simp only [hp, decide_false]
      have hput : getK (match (Option.map (· + 1) (l.findIdx? (fun p => decide (p.1 = k)))) with | some i => (p :: l).set i (k, v) | none => (p :: l) ++ [(k, v)]) x = getK (p :: (match l.findIdx? (fun p => decide (p.1 = k)) with | some i => l.set i (k, v) | none => l ++ [(k, v)])) x := by
        cases l.findIdx? (fun p => decide (p.1 = k)) with
        | none => rfl
        | some i => rfl
      simp only [Bool.false_eq_true, if_false]
      rw [hput]
      unfold getK at ih ⊢
      rw [List.find?_cons, List.find?_cons]
      by_cases h : p.1 = x
      · have : ¬ x = k := fun e => hp (h.trans e)
        simp [h, this]
      · simp only [h, decide_false]
        exact ih
end
section
variable {P : Program} {T : Tab} {n : Nat} {ops : Array Oper} {Q : Exit → Act → World → Prop} {G : Env} {w : World} {K : Env → World → Prop}
  {d ty : Nat} {pos : String} {af : Array Go.Edge} {g : Option (Nat × Bool)}
variable {κ ν : Type} [Key κ] [DecidableEq κ] {va : ν → Value} {b : Nat} {l : List (κ × ν)}
theorem o_mkmap {κ ν : Type} [Key κ] {va : ν → Value} {t : TypeId} (hg : gd ops G ⟨some d, .makeMap t none, ty, pos, af, g⟩ = some true) (hdn : Nat.blt d n = true)
    (h : ∀ b w', b = w.heap.size → Ext w w' → b < w'.heap.size → MapL va w' b ([] : List (κ × ν)) → K ((d, .map (some b)) :: G) w') : OW P n ops Q G w ⟨some d, .makeMap t none, ty, pos, af, g⟩ K := by
  refine o_val (w' := w.alloc (.map #[] 0)) hg rfl hdn (fun a _ => ?_) (h w.heap.size _ rfl (ext_alloc _ _) ?_ ⟨⟨#[], 0, heap_alloc_new w _, rfl, by simp, by simp⟩, by simp⟩)
  · simp [execOp, Instr.makeMap]
  · simp
theorem lookup_run {P : Program} {t tk te : TypeId} {ck : Bool} {z : ν} {dk : TypeDesc} (ht : P.underlying t = some (.map tk te)) (hk : P.underlying tk = some dk) (hf : Key.fit κ dk) (hz : (zeroValue te).run P w = .ok (va z) w)
    (hm : MapL va w b l) (k : κ) : (Instr.lookup t (.map (some b)) (Key.val k) ck).run P w = .ok (if ck then .tuple #[va ((getK l k).getD z), .bool (getK l k).isSome] else va ((getK l k).getD z)) w := by
  obtain ⟨es, clock, hb, hl, _⟩ := id hm.ex
  unfold Instr.lookup
  have hfr := find_run hk hf k hm hb
  simp only [Sem.run_bind, run_underlying ht, Result.andThen_ok]
  have hget := MapKept.run_getObj_map (P := P) hb
  simp only [Sem.run_bind, hget, Result.andThen_ok, Sem.run_pure, Key.chk hk hf, hfr]
  rw [getK_idx]
  cases hi : l.findIdx? (fun p => decide (p.1 = k)) with
  | none => cases ck <;> simp [hz]
  | some j =>
    have hj : j < l.length := by
      rw [List.findIdx?_eq_some_iff_getElem] at hi
      exact hi.choose
    cases ck <;> simp [gE hj]
theorem putK_keys {κ ν : Type} [DecidableEq κ] (l : List (κ × ν)) (k : κ) (v : ν) (h : (l.map (·.1)).Nodup) : ((putK l k v).map (·.1)).Nodup := by
  unfold putK
  cases hi : l.findIdx? (fun p => decide (p.1 = k)) with
  | some i =>
    rw [List.findIdx?_eq_some_iff_getElem] at hi
    obtain ⟨hil, h1, _⟩ := hi
    have h1' : l[i].1 = k := of_decide_eq_true h1
    have : (l.set i (k, v)).map (·.1) = l.map (·.1) := by
      rw [List.map_set]
      apply List.ext_getElem?
      intro j
      rw [List.getElem?_set]
      by_cases e : i = j
      · subst e; simp [hil, h1']
      · simp [e]
    simp only [this]
    exact h
  | none =>
    rw [List.findIdx?_eq_none_iff] at hi
    simp only [List.map_append, List.map_cons, List.map_nil]
    rw [List.nodup_append]
    refine ⟨h, by simp, fun x hx y hy => ?_⟩
    simp only [List.mem_singleton] at hy
    subst hy
    obtain ⟨p, hp, rfl⟩ := List.mem_map.1 hx
    have := hi p hp
    simpa using this
theorem update_run {P : Program} {t tk te : TypeId} {dk : TypeDesc} (ht : P.underlying t = some (.map tk te)) (hk : P.underlying tk = some dk) (hf : Key.fit κ dk) (hm : MapL va w b l) (k : κ) (v : ν) :
    ∃ w', (Instr.mapUpdate t (.map (some b)) (Key.val k) (va v)).run P w = .ok () w' ∧ MapL va w' b (putK l k v) ∧ Upd (fun z => z = b) w w' ∧ ∀ B, B ≤ b → Below B w w' := by
  obtain ⟨es, clock, hb, hl, hborn, hnd⟩ := id hm.ex
  have hlen : es.size = l.length := by have := congrArg List.length hl; simpa using this
  have hfr := find_run hk hf k hm hb
  have frame : ∀ o : Obj, Upd (fun z => z = b) w (ChangeMaps.setBlock w b o) ∧ ∀ B, B ≤ b → Below B w (ChangeMaps.setBlock w b o) := by
    intro o
    refine ⟨⟨by simp [ChangeMaps.setBlock], fun x _ hx => ChangeMaps.heap_setBlock_other hb o hx⟩, fun B hB => ⟨rfl, rfl, rfl, by simp [ChangeMaps.setBlock], fun x hx => ChangeMaps.heap_setBlock_other hb o (by omega)⟩⟩
  have hpk := putK_keys l k v hm.keys
  unfold putK at hpk ⊢
  cases hi : l.findIdx? (fun p => decide (p.1 = k)) with
  | none =>
    simp only [hi] at hfr hpk
    refine ⟨ChangeMaps.setBlock w b (.map (es.push ⟨Key.val k, va v, clock⟩) (clock + 1)), ?_, ⟨⟨_, _, ChangeMaps.heap_setBlock_same hb _, ?_, ?_, ?_⟩, hpk⟩, frame _⟩
    · simp [Instr.mapUpdate, run_underlying ht, MapKept.run_getObj_map hb, Key.chk hk hf, hfr, MapKept.run_setObj_map _ hb, Result.andThen, ChangeMaps.setBlock]
    · simp [hl]
    · intro e he
      simp only [Array.toList_push, List.mem_append, List.mem_singleton] at he
      rcases he with he | rfl
      · have := hborn e he; omega
      · exact Nat.lt_succ_self _
    · simp only [Array.toList_push, List.map_append, List.map_cons, List.map_nil]
      rw [List.nodup_append]
      refine ⟨hnd, by simp, fun x hx y hy => ?_⟩
      simp only [List.mem_singleton] at hy
      subst hy
      obtain ⟨e, he, rfl⟩ := List.mem_map.1 hx
      have := hborn e he
      omega
  | some i =>
    simp only [hi] at hfr hpk
    have hi' := hi
    rw [List.findIdx?_eq_some_iff_getElem] at hi'
    obtain ⟨hil, h1, _⟩ := hi'
    have h1' : l[i].1 = k := of_decide_eq_true h1
    have hie : i < es.size := by omega
    have hkey : es[i].key = Key.val k := by
      have := congrArg (fun m => m[i]?) hl
      simp [hie, hil] at this
      rw [this.1, h1']
    simp only [gE hil, Option.bind_some, Option.map_some] at hfr
    refine ⟨ChangeMaps.setBlock w b (.map (es.modify i fun e => { e with key := Key.val k, val := va v }) clock), ?_, ⟨⟨_, _, ChangeMaps.heap_setBlock_same hb _, ?_, ?_, ?_⟩, hpk⟩, frame _⟩
    · have hst : (Instr.keyThatStays (Key.val k) (Key.val k)).run P w = .ok (Key.val k) w := by simp [Instr.keyThatStays, Key.bits k]
      simp [Instr.mapUpdate, run_underlying ht, MapKept.run_getObj_map hb, Key.chk hk hf, hfr, MapKept.run_setObj_map _ hb, Result.andThen, ChangeMaps.setBlock, hie, hkey, hst]
    · apply List.ext_getElem?
      intro j
      have := congrArg (fun m => m[j]?) hl
      simp only [List.getElem?_map, Array.getElem?_toList] at this ⊢
      rw [List.getElem?_set, Array.getElem?_modify]
      by_cases e : i = j
      · subst e; simp [hie, hil]
      · simp only [e, if_false]; exact this
    · intro e he
      obtain ⟨j, hj, rfl⟩ := List.getElem_of_mem he
      have hj' : j < es.size := by simpa using hj
      have := hborn es[j] (by simp)
      simp only [Array.getElem_toList, Array.getElem_modify]
      split <;> exact this
    · have : ((es.modify i fun e => { e with key := Key.val k, val := va v }).toList.map (·.born)) = es.toList.map (·.born) := by
        apply List.ext_getElem?
        intro j
        simp only [List.getElem?_map, Array.getElem?_toList, Array.getElem?_modify]
        by_cases e : i = j
        · subst e; simp [hie]
        · simp [e]
      rw [this]; exact hnd
theorem o_mupd {t tk te : TypeId} {x y z : Operand} {ti : TI} (hT : TabOk P T) (hm : MapL va w b l) {k : κ} {v : ν} (hx : Env.ev G x = some (.map (some b))) (hy : Env.ev G y = some (Key.val k)) (hz : Env.ev G z = some (va v))
    (ht : T.get t = some ti) (htd : ti.d = .mp tk te) (htk : ∃ dk, P.underlying tk = some dk ∧ Key.fit κ dk)
    (hg : gd ops G ⟨none, .mapUpdate t x y z, ty, pos, af, g⟩ = some true)
    (h : ∀ w', MapL va w' b (putK l k v) → Upd (fun z => z = b) w w' → (∀ B, B ≤ b → Below B w w') → K G w') : OW P n ops Q G w ⟨none, .mapUpdate t x y z, ty, pos, af, g⟩ K := by
  have hd := (hT t ti ht).d
  rw [htd] at hd
  obtain ⟨dk, hk, hf⟩ := htk
  obtain ⟨w', hrun, h1, h2, h3⟩ := update_run hd hk hf hm k v
  exact o_unit (w' := w') hg rfl (fun a ha => by simp [execOp, ha.ev hx, ha.ev hy, ha.ev hz, hrun]) (h w' h1 h2 h3)
theorem o_look {t tk te : TypeId} {x y : Operand} {ck : Bool} {z : ν} {ti tie : TI} (hT : TabOk P T) (hm : MapL va w b l) {k : κ} (hx : Env.ev G x = some (.map (some b))) (hy : Env.ev G y = some (Key.val k))
    (ht : T.get t = some ti) (htd : ti.d = .mp tk te) (htk : ∃ dk, P.underlying tk = some dk ∧ Key.fit κ dk) (hte : T.get te = some tie) (hz : tie.zero = va z)
    (hg : gd ops G ⟨some d, .lookup t x y ck, ty, pos, af, g⟩ = some true) (hdn : Nat.blt d n = true)
    (h : K ((d, if ck then .tuple #[va ((getK l k).getD z), .bool (getK l k).isSome] else va ((getK l k).getD z)) :: G) w) : OW P n ops Q G w ⟨some d, .lookup t x y ck, ty, pos, af, g⟩ K := by
  have hd := (hT t ti ht).d
  rw [htd] at hd
  obtain ⟨dk, hk, hf⟩ := htk
  refine o_val hg rfl hdn (fun a ha => ?_) h
  have hzr := run_zeroValue' hT hte (P := P)
  rw [hz] at hzr
  simp [execOp, ha.ev hx, ha.ev hy, lookup_run hd hk hf (hzr w) hm k]
end
end Rw
