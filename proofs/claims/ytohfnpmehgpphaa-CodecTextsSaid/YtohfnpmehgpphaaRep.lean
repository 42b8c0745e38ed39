/- Rules for walking a Go function's code, part three: which values read as which data, slices that only are read, and slices of the call's own. No program in sight. -/
import Derived.Test.YtohfnpmehgpphaaOps
namespace Rw
open Go Go.RowKit

/-- Data that values read as: so many cells, in blocks that nobody writes. -/
class Rep (α : Type) where
  sz : Nat
  R : (Nat → Prop) → World → Value → α → Prop
  pos : 0 < sz
  size : ∀ {M w v x}, R M w v x → v.cells.size = sz
  one : ∀ {M w v x}, R M w v x → ∀ u ∈ v.cells.toList, u.oneCell' = true
  upd : ∀ {M w w' v x}, R M w v x → Upd M w w' → R M w' v x
  wk : ∀ {M M' w v x}, R M w v x → (∀ b, b < w.heap.size → M' b → M b) → R M' w v x

section
variable {α : Type} [Rep α] {M : Nat → Prop} {w w' : World} {v : Value} {x : α}
theorem Rep.ext (h : Rep.R M w v x) (e : Ext w w') : Rep.R M w' v x := Rep.upd h (e.upd M)
end

/-- From world to world: only what is in M is written; what is new in M' is new. -/
structure Stp (B : Nat) (M M' : Nat → Prop) (w w' : World) : Prop where
  upd : Upd M w w'
  wk : ∀ b, b < w.heap.size → M' b → M b
  sub : ∀ b, M b → M' b
  low : Low M' w'
  below : Below B w w'

theorem Rep.stp {α : Type} [Rep α] {B : Nat} {M M' : Nat → Prop} {w w' : World} {v : Value} {x : α} (h : Rep.R M w v x) (s : Stp B M M' w w') : Rep.R M' w' v x :=
  Rep.upd (Rep.wk h s.wk) ⟨s.upd.1, fun b hb hn => s.upd.2 b hb (fun hm => hn (s.sub b hm))⟩
theorem At.stp {B : Nat} {M M' : Nat → Prop} {w w' : World} {b off : Nat} {cs : List Value} (h : At M w b off cs) (s : Stp B M M' w w') : At M' w' b off cs :=
  At.upd (At.wk h s.wk) ⟨s.upd.1, fun b hb hn => s.upd.2 b hb (fun hm => hn (s.sub b hm))⟩
theorem Stp.ext {B : Nat} {M : Nat → Prop} {w w' : World} (h : Ext w w') (hl : Low M w) (hB : B ≤ w.heap.size) : Stp B M M w w' :=
  ⟨h.upd M, fun _ _ h => h, fun _ h => h, hl.ext h, Below.mono h hB⟩
theorem Stp.then {B : Nat} {M M' M'' : Nat → Prop} {w w' w'' : World} (h : Stp B M M' w w') (k : Stp B M' M'' w' w'') : Stp B M M'' w w'' :=
  ⟨⟨Nat.le_trans h.upd.1 k.upd.1, fun b hb hn => (k.upd.2 b (Nat.lt_of_lt_of_le hb h.upd.1) (fun hm => hn (h.wk b hb hm))).trans (h.upd.2 b hb hn)⟩,
   fun b hb hm => h.wk b hb (k.wk b (Nat.lt_of_lt_of_le hb h.upd.1) hm), fun b hm => k.sub b (h.sub b hm), k.low, h.below.trans k.below⟩
theorem Stp.refl {B : Nat} {M : Nat → Prop} {w : World} (hl : Low M w) : Stp B M M w w :=
  ⟨⟨Nat.le_refl _, fun _ _ _ => rfl⟩, fun _ _ h => h, fun _ h => h, hl, Below.refl _ _⟩
/-- A new block that will be written. -/
theorem Stp.add {B : Nat} {M : Nat → Prop} {w w' : World} (h : Ext w w') (hl : Low M w) (hB : B ≤ w.heap.size) {b : Nat} (hb : w.heap.size ≤ b) (hb' : b < w'.heap.size) : Stp B M (Add M b) w w' :=
  ⟨h.upd M, fun x hx hm => hm.resolve_right (fun e => by omega), fun _ h => .inl h, (hl.ext h).add hb', Below.mono h hB⟩

/-- A new block isn't in M. -/
theorem nM_of {M : Nat → Prop} {w : World} {b : Nat} (h : Low M w) (hb : b = w.heap.size) : ¬ M b := fun hm => by have := h b hm; omega

/-! ## Scalars -/

def I64 (n : Int) : Prop := -9223372036854775808 ≤ n ∧ n ≤ 9223372036854775807

instance : Rep Int where
  sz := 1
  R := fun _ _ v n => v = .int .i64 n ∧ I64 n
  pos := by decide
  size := by rintro M w v x ⟨rfl, _⟩; rfl
  one := by rintro M w v x ⟨rfl, _⟩ u hu; simp [Value.cells] at hu; subst hu; rfl
  upd := fun h _ => h
  wk := fun h _ => h

instance : Rep Bool where
  sz := 1
  R := fun _ _ v b => v = .bool b
  pos := by decide
  size := by rintro M w v x rfl; rfl
  one := by rintro M w v x rfl u hu; simp [Value.cells] at hu; subst hu; rfl
  upd := fun h _ => h
  wk := fun h _ => h

instance : Rep UInt8 where
  sz := 1
  R := fun _ _ v c => v = .int .u8 c.toNat
  pos := by decide
  size := by rintro M w v x rfl; rfl
  one := by rintro M w v x rfl u hu; simp [Value.cells] at hu; subst hu; rfl
  upd := fun h _ => h
  wk := fun h _ => h

instance : Rep ByteArray where
  sz := 1
  R := fun _ _ v s => v = .string s ∧ s.size < 140737488355328
  pos := by decide
  size := by rintro M w v x ⟨rfl, _⟩; rfl
  one := by rintro M w v x ⟨rfl, _⟩ u hu; simp [Value.cells] at hu; subst hu; rfl
  upd := fun h _ => h
  wk := fun h _ => h

/-! ## Slices that are read -/

/-- Element i lies behind the slice's beginning, and reads as the i-th thing. -/
def Elems {α : Type} [Rep α] (M : Nat → Prop) (w : World) (a : Option Addr) (l : List α) : Prop :=
  l = [] ∨ ∃ b off, a = some ⟨b, off, none⟩ ∧ ∀ (i : Nat) (x : α), l[i]? = some x → ∃ u, Rep.R M w u x ∧ At M w b (off + i * Rep.sz α) u.cells.toList

def Sl {α : Type} [Rep α] (M : Nat → Prop) (w : World) (v : Value) (l : List α) : Prop :=
  ∃ a cap, v = .slice a l.length cap ∧ l.length < 140737488355328 ∧ l.length ≤ cap ∧ Elems M w a l

section
variable {α : Type} [Rep α] {M M' : Nat → Prop} {w w' : World} {v : Value} {l : List α}

theorem Elems.upd {a : Option Addr} (h : Elems M w a l) (e : Upd M w w') : Elems M w' a l := by
  rcases h with h | ⟨b, off, ha, hx⟩
  · exact .inl h
  · exact .inr ⟨b, off, ha, fun i x hi => let ⟨u, h1, h2⟩ := hx i x hi; ⟨u, Rep.upd h1 e, h2.upd e⟩⟩
theorem Elems.wk {a : Option Addr} (h : Elems M w a l) (e : ∀ b, b < w.heap.size → M' b → M b) : Elems M' w a l := by
  rcases h with h | ⟨b, off, ha, hx⟩
  · exact .inl h
  · exact .inr ⟨b, off, ha, fun i x hi => let ⟨u, h1, h2⟩ := hx i x hi; ⟨u, Rep.wk h1 e, h2.wk e⟩⟩
theorem Sl.upd (h : Sl M w v l) (e : Upd M w w') : Sl M w' v l := let ⟨a, c, h1, h2, h3, h4⟩ := h; ⟨a, c, h1, h2, h3, h4.upd e⟩
theorem Sl.wk (h : Sl M w v l) (e : ∀ b, b < w.heap.size → M' b → M b) : Sl M' w v l := let ⟨a, c, h1, h2, h3, h4⟩ := h; ⟨a, c, h1, h2, h3, h4.wk e⟩
theorem Sl.ext (h : Sl M w v l) (e : Ext w w') : Sl M w' v l := h.upd (e.upd M)
theorem Sl.stp {B : Nat} (h : Sl M w v l) (s : Stp B M M' w w') : Sl M' w' v l :=
  Sl.upd (Sl.wk h s.wk) ⟨s.upd.1, fun b hb hn => s.upd.2 b hb (fun hm => hn (s.sub b hm))⟩
theorem Sl.lt (h : Sl M w v l) : l.length < 140737488355328 := let ⟨_, _, _, h2, _, _⟩ := h; h2
theorem sl_nil : Sl M w (.slice none 0 0) ([] : List α) := ⟨none, 0, rfl, by simp, by simp, .inl rfl⟩
theorem Sl.cells (h : Sl M w v l) : v.cells = #[v] := by obtain ⟨a, c, rfl, _⟩ := h; rfl
end

instance {α : Type} [Rep α] : Rep (List α) where
  sz := 1
  R := Sl
  pos := by decide
  size := by rintro M w v x ⟨a, c, rfl, _⟩; rfl
  one := by rintro M w v x ⟨a, c, rfl, _⟩ u hu; simp [Value.cells] at hu; subst hu; rfl
  upd := Sl.upd
  wk := Sl.wk

section
variable {P : Program} {T : Tab} {n : Nat} {ops : Array Oper} {Q : Exit → Act → World → Prop} {G : Env} {w : World} {K : Env → World → Prop}
  {d ty : Nat} {pos : String} {af : Array Edge} {g : Option (Nat × Bool)}
variable {α : Type} [Rep α] {M : Nat → Prop} {v : Value} {l : List α}

/-- The length of a slice that reads as a list. -/
theorem o_len {t : TypeId} {x : Operand} {ti : TI} {e : Nat} (hT : TabOk P T) (hs : Sl M w v l) (hx : Env.ev G x = some v) (ht : T.get t = some ti) (htd : ti.d = .sl e)
    (hg : gd ops G ⟨some d, .call ⟨.builtin .len, #[x], #[t]⟩, ty, pos, af, g⟩ = some true) (hdn : Nat.blt d n = true) (h : K ((d, .int .i64 (l.length : Int)) :: G) w) :
    OW P n ops Q G w ⟨some d, .call ⟨.builtin .len, #[x], #[t]⟩, ty, pos, af, g⟩ K := by
  obtain ⟨a, c, rfl, _⟩ := hs
  obtain ⟨td, _, _, _⟩ := ti
  simp only at htd
  subst htd
  exact o_p hT (by simp [pureS, hx, ht]) hg hdn h

/-- The address of an element of it. -/
theorem o_ixS {t : TypeId} {x i : Operand} {k : IntKind} {z : Int} {j : Nat} {y : α} {ti te : TI} {e : Nat} (hT : TabOk P T) (hs : Sl M w v l) (hy : l[j]? = some y) (hx : Env.ev G x = some v) (hi : Env.ev G i = some (.int k z)) (hj : z = (j : Int))
    (ht : T.get t = some ti) (htd : ti.d = .sl e) (hte : T.get e = some te) (hsz : te.size = Rep.sz α)
    (hg : gd ops G ⟨some d, .indexAddr t x i, ty, pos, af, g⟩ = some true) (hdn : Nat.blt d n = true)
    (h : ∀ b o u, Rep.R M w u y → At M w b o u.cells.toList → K ((d, .pointer (some ⟨b, o, none⟩)) :: G) w) : OW P n ops Q G w ⟨some d, .indexAddr t x i, ty, pos, af, g⟩ K := by
  obtain ⟨a, c, rfl, _, _, he⟩ := hs
  have hlt : j < l.length := (List.getElem?_eq_some_iff.1 hy).1
  rcases he with he | ⟨b, off, ha, hel⟩
  · subst he; simp at hlt
  · subst ha
    obtain ⟨u, h1, h2⟩ := hel j y hy
    refine o_ix hT hx hi ht htd hte hj hlt hg hdn (h b _ u h1 ?_)
    rw [hsz]; exact h2
end

theorem Sl.lens {α : Type} [Rep α] {M : Nat → Prop} {w : World} {v : Value} {l : List (List α)} (h : Sl M w v l) : ∀ x ∈ l, x.length < 140737488355328 := by
  intro x hx
  obtain ⟨i, hi, rfl⟩ := List.getElem_of_mem hx
  obtain ⟨a, c, rfl, _, _, he⟩ := h
  rcases he with rfl | ⟨b, off, rfl, hel⟩
  · cases hx
  · obtain ⟨u, hu, _⟩ := hel i _ (List.getElem?_eq_getElem hi)
    exact Sl.lt hu

theorem i64_wrap (n : Int) : I64 (IntKind.i64.wrap n) := by
  rw [IntKind.wrap_i64]; unfold I64; omega

/-! ## Slices of the call's own -/

/-- Values, one by one, read as data. -/
def Rs {α : Type} [Rep α] (M : Nat → Prop) (w : World) : List Value → List α → Prop
  | [], [] => True
  | u :: us, x :: xs => Rep.R M w u x ∧ Rs M w us xs
  | _, _ => False

def flat (us : List Value) : List Value := us.flatMap (·.cells.toList)

section
variable {α : Type} [Rep α] {M M' : Nat → Prop} {w w' : World}
theorem Rs.length : ∀ {us : List Value} {l : List α}, Rs M w us l → us.length = l.length
  | [], [], _ => rfl
  | _ :: _, _ :: _, h => by simp [Rs.length h.2]
  | [], _ :: _, h => h.elim
  | _ :: _, [], h => h.elim
theorem Rs.upd : ∀ {us : List Value} {l : List α}, Rs M w us l → Upd M w w' → Rs M w' us l
  | [], [], _, _ => trivial
  | _ :: _, _ :: _, h, e => ⟨Rep.upd h.1 e, Rs.upd h.2 e⟩
  | [], _ :: _, h, _ => h.elim
  | _ :: _, [], h, _ => h.elim
theorem Rs.wk : ∀ {us : List Value} {l : List α}, Rs M w us l → (∀ b, b < w.heap.size → M' b → M b) → Rs M' w us l
  | [], [], _, _ => trivial
  | _ :: _, _ :: _, h, e => ⟨Rep.wk h.1 e, Rs.wk h.2 e⟩
  | [], _ :: _, h, _ => h.elim
  | _ :: _, [], h, _ => h.elim
theorem Rs.append : ∀ {us vs : List Value} {l k : List α}, Rs M w us l → Rs M w vs k → Rs M w (us ++ vs) (l ++ k)
  | [], _, [], _, _, h => h
  | _ :: _, _, _ :: _, _, h, h' => ⟨h.1, Rs.append h.2 h'⟩
  | [], _, _ :: _, _, h, _ => h.elim
  | _ :: _, _, [], _, h, _ => h.elim
theorem Rs.get : ∀ {us : List Value} {l : List α}, Rs M w us l → ∀ {i : Nat} {x : α}, l[i]? = some x → ∃ u, us[i]? = some u ∧ Rep.R M w u x
  | [], [], _, i, x, h => by simp at h
  | u :: _, _ :: _, h, 0, x, hx => by simp at hx; subst hx; exact ⟨u, rfl, h.1⟩
  | _ :: _, _ :: _, h, i + 1, x, hx => by simpa using Rs.get h.2 (i := i) (by simpa using hx)
  | [], _ :: _, h, _, _, _ => h.elim
  | _ :: _, [], h, _, _, _ => h.elim
theorem Rs.flat_length : ∀ {us : List Value} {l : List α}, Rs M w us l → (flat us).length = l.length * Rep.sz α
  | [], [], _ => by simp [flat]
  | u :: us, x :: xs, h => by
    have h1 := Rep.size h.1
    have h2 := Rs.flat_length h.2
    simp only [flat, List.flatMap_cons, List.length_append, List.length_cons, Nat.add_mul, Nat.one_mul] at *
    simp only [Array.length_toList]
    omega
  | [], _ :: _, h => h.elim
  | _ :: _, [], h => h.elim
theorem Rs.flat_one : ∀ {us : List Value} {l : List α}, Rs M w us l → ∀ u ∈ flat us, u.oneCell' = true
  | [], [], _, u, h => by simp [flat] at h
  | y :: us, x :: xs, h, u, hu => by
    simp only [flat, List.flatMap_cons, List.mem_append] at hu
    rcases hu with hu | hu
    · exact Rep.one h.1 u hu
    · exact Rs.flat_one h.2 u hu
  | [], _ :: _, h, _, _ => h.elim
  | _ :: _, [], h, _, _ => h.elim
theorem Rs.flat_get : ∀ {us : List Value} {l : List α}, Rs M w us l → ∀ {i : Nat} {u : Value}, us[i]? = some u → ∀ (j : Nat) (c : Value), u.cells.toList[j]? = some c → (flat us)[i * Rep.sz α + j]? = some c
  | [], [], _, i, u, h, _, _, _ => by simp at h
  | y :: us, x :: xs, h, 0, u, hu, j, c, hc => by
    simp at hu; subst hu
    have hj := (List.getElem?_eq_some_iff.1 hc).1
    simp only [flat, List.flatMap_cons, Nat.zero_mul, Nat.zero_add]
    rw [List.getElem?_append_left hj]; exact hc
  | y :: us, x :: xs, h, i + 1, u, hu, j, c, hc => by
    have h1 := Rep.size h.1
    have h2 := Rs.flat_get h.2 (i := i) (u := u) (by simpa using hu) j c hc
    simp only [flat, List.flatMap_cons]
    rw [List.getElem?_append_right (by simp [h1, Nat.add_mul]; omega)]
    simp only [Array.length_toList, h1]
    rw [show (i + 1) * Rep.sz α + j - Rep.sz α = i * Rep.sz α + j by rw [Nat.add_mul]; omega]
    exact h2
  | [], _ :: _, h, _, _, _, _, _, _ => h.elim
  | _ :: _, [], h, _, _, _, _, _, _ => h.elim
end

/-- A slice of the call's own (its block from B on, and in M), that holds these things. -/
structure OwnSl {α : Type} [Rep α] (e B : Nat) (M : Nat → Prop) (w : World) (v : Value) (l : List α) : Prop where
  row : ∃ us, w.ownsRow B e (Rep.sz α) v l.length (flat us) ∧ Rs M w us l
  inM : ∀ b, v.ownBlock = some b → M b

section
variable {α : Type} [Rep α] {e B : Nat} {M M' : Nat → Prop} {w w' : World} {v : Value} {l : List α}

theorem own_nil : OwnSl e B M w (.slice none 0 0) ([] : List α) := ⟨⟨[], by simpa [flat] using World.ownsRow_nil w B e (Rep.sz α), trivial⟩, by simp [Value.ownBlock]⟩

/-- It is a slice value. -/
theorem OwnSl.val (h : OwnSl e B M w v l) : ∃ a cap, v = .slice a l.length cap ∧ l.length ≤ cap := by
  obtain ⟨us, hr, _⟩ := h.row
  rcases hr.2 with ⟨rfl, h0⟩ | ⟨g, cap, cur, rfl, _, _, hc, _⟩
  · exact ⟨none, 0, by rw [h0], by omega⟩
  · exact ⟨_, cap, rfl, hc⟩

/-- Steps that don't write its block. -/
theorem OwnSl.stp (h : OwnSl e B M w v l) (s : Stp B M M' w w') (hb : ∀ b, v.ownBlock = some b → w'.heap[b]? = w.heap[b]?) : OwnSl e B M' w' v l := by
  obtain ⟨us, hr, hs⟩ := h.row
  refine ⟨⟨us, ⟨hr.1, ?_⟩, Rs.upd (Rs.wk hs s.wk) ⟨s.upd.1, fun b hb hn => s.upd.2 b hb (fun hm => hn (s.sub b hm))⟩⟩, fun b hv => s.sub b (h.inM b hv)⟩
  rcases hr.2 with hn | ⟨g, cap, cur, rfl, hB, hg, rest⟩
  · exact .inl hn
  · exact .inr ⟨g, cap, cur, rfl, hB, (hb g rfl).trans hg, rest⟩
theorem OwnSl.lt (h : OwnSl e B M w v l) : ∀ b, v.ownBlock = some b → B ≤ b ∧ b < w.heap.size := by
  obtain ⟨us, hr, _⟩ := h.row
  exact hr.lt
theorem OwnSl.ext (h : OwnSl e B M w v l) (hl : Low M w) (hB : B ≤ w.heap.size) (x : Ext w w') : OwnSl e B M w' v l :=
  h.stp (Stp.ext x hl hB) (fun b hb => x.block b (h.lt b hb).2)

/-- Nobody writes it any more: it is read as it is. -/
theorem OwnSl.sl (h : OwnSl e B M w v l) (hl : l.length < 140737488355328) {M0 : Nat → Prop} (h0 : ∀ b, M0 b → b < B) (hsub : ∀ b, M0 b → M b) : Sl M0 w v l := by
  obtain ⟨us, hr, hs⟩ := h.row
  have hlt := hr.lt
  rcases hr.2 with ⟨rfl, hn⟩ | ⟨g, cap, cur, rfl, hB, hg, hc, _, _, htake⟩
  · have : l = [] := List.eq_nil_of_length_eq_zero hn
    subst this
    exact sl_nil
  · refine ⟨_, cap, rfl, hl, hc, .inr ⟨g, 0, rfl, fun i x hx => ?_⟩⟩
    obtain ⟨u, hu, hR⟩ := hs.get hx
    refine ⟨u, Rep.wk hR (fun b _ hb => hsub b hb), (hlt g rfl).2, fun hm => by have := h0 g hm; omega, fun j c hc => ?_⟩
    have := hr.cells (g := g) rfl (i * Rep.sz α + j) c (hs.flat_get hu j c hc)
    rw [addr_add] at this
    rwa [show 0 + i * Rep.sz α + j = 0 + (i * Rep.sz α + j) by omega]
end

end Rw
