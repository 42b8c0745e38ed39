/- What came in reads as data: from the form's reading to the facts of the walks. No program in sight. -/
import Derived.Test.YtohfnpmehgpphaaMem
import Derived.Deep.Slices
import Derived.SizedLaws
import Derived.Below
namespace Rw
open Go Go.RowKit

theorem Ret.out {R : Value → World → Prop} {e : Ending} {w : World} (h : Ret R e w) : ∃ v, e = .returned v ∧ R v w := by
  cases e with
  | returned v => exact ⟨v, rfl, h⟩
  | _ => exact h.elim

/-- A type's readings (those that Q bears) are things of α. -/
structure Opens {H : Type} {α : Type} [Rep α] (P : Program) (Q : TypeId → DataW H → Prop) (t : TypeId) (α' : α → Prop) : Prop where
  cells : P.cellsOf t = Rep.sz α
  read : ∀ (enc : TypeId × Value → H) (w : World) (fuel : Nat) (cs : List Value) (d : DataW H) (ps : List MemPlace), DataW.trod enc P w 0 (fun _ => true) true fuel t cs = some (d, ps) → Q t d →
    ∃ (v : Value) (x : α), v.cells.toList = cs ∧ Rep.R NoM w v x ∧ α' x

section
variable {H : Type} {P : Program} {Q : TypeId → DataW H → Prop}

theorem opens_int {t : TypeId} (ht : P.underlying t = some (.int .i64)) (hc : P.cellsOf t = 1) : Opens (α := Int) P Q t (fun _ => True) := by
  refine ⟨hc, fun enc w fuel cs d ps h _ => ?_⟩
  obtain ⟨n, rfl, _, hw⟩ := DataW.trod_int ht h
  refine ⟨.int .i64 n, n, rfl, ⟨rfl, ?_⟩, trivial⟩
  have : -9223372036854775808 ≤ n ∧ n ≤ 9223372036854775807 := by simpa [Lit.wf, IntKind.min, IntKind.max, IntKind.signed, IntKind.bits] using hw
  exact this

theorem opens_string {t : TypeId} (ht : P.underlying t = some .string) (hc : P.cellsOf t = 1) (hq : ∀ l, Q t (.lit (.string l)) → l.length < 140737488355328) : Opens (α := ByteArray) P Q t (fun _ => True) := by
  refine ⟨hc, fun enc w fuel cs d ps h hQ => ?_⟩
  obtain ⟨s, rfl, hx, _⟩ := DataW.trod_string ht h
  cases hx
  have := hq _ hQ
  refine ⟨.string s, s, rfl, ⟨rfl, ?_⟩, trivial⟩
  simpa using this

theorem opens_slice {α : Type} [Rep α] {p : α → Prop} {t e : TypeId} (ht : P.underlying t = some (.slice e)) (hc : P.cellsOf t = 1) (he : Opens P Q e p)
    (hq : ∀ el sp, Q t (.slice el sp) → el.length < 140737488355328 ∧ ∀ d ∈ el, Q e d) : Opens (α := List α) P Q t (fun l => ∀ x ∈ l, p x) := by
  refine ⟨hc, fun enc w fuel cs d ps h hQ => ?_⟩
  rcases Go.Deep.open_slice ht h with ⟨rfl, _⟩ | ⟨a, len, cap, m, n, D, Pl, rfl, _, hl, _, hm, hx, hel⟩
  · exact ⟨.slice none 0 0, [], rfl, sl_nil, fun x hx => by cases hx⟩
  · have hm' : m = cap := by simpa using hm
    subst hm'
    have hd : d = .slice ((List.range len).map D) ((List.range (m - len)).map fun j => D (len + j)) := congrArg Prod.fst hx
    subst hd
    obtain ⟨hlen, hall⟩ := hq _ _ hQ
    have hlen' : len < 140737488355328 := by simpa using hlen
    rw [he.cells] at hel
    have each : ∀ i : Fin len, ∃ y : Value × α, w.cells? 0 (a.add (i.1 * Rep.sz α)) (Rep.sz α) = some y.1.cells.toList ∧ Rep.R NoM w y.1 y.2 ∧ p y.2 := by
      intro i
      obtain ⟨cs', h1, h2⟩ := hel i.1 (Nat.lt_of_lt_of_le i.2 hl)
      obtain ⟨v, x, hv, hR, hp⟩ := he.read enc w n cs' _ _ h2 (hall _ (List.mem_map.2 ⟨i.1, List.mem_range.2 i.2, rfl⟩))
      exact ⟨(v, x), by rw [hv]; exact h1, hR, hp⟩
    obtain ⟨f, hf⟩ := Classical.axiomOfChoice each
    refine ⟨.slice (some a) len m, List.ofFn fun i => (f i).2, rfl, ⟨some a, m, by simp, by simpa using hlen', by simpa using hl, ?_⟩, fun x hx => ?_⟩
    · by_cases h0 : len = 0
      · subst h0; left; simp
      · right
        have hpos : 0 < Rep.sz α := Rep.pos
        obtain ⟨_, _, hc0⟩ := World.cells?_some (hf ⟨0, by omega⟩).1
        have hc00 := hc0 0 hpos
        have hlen0 := Rep.size (hf ⟨0, by omega⟩).2.1
        obtain ⟨b, off, spot⟩ := a
        have hsome : ∃ v, w.cell? ⟨b, off, spot⟩ = some v := by
          have e1 : (Addr.add ⟨b, off, spot⟩ (0 * Rep.sz α)).add 0 = ⟨b, off, spot⟩ := by simp [Addr.add]
          rw [e1] at hc00
          refine ⟨_, hc00.trans (List.getElem?_eq_getElem (by simpa [hlen0] using hpos))⟩
        obtain ⟨v0, hv0⟩ := hsome
        have hsp : spot = none := by
          cases spot with
          | none => rfl
          | some s => simp [World.cell?] at hv0; split at hv0 <;> simp at hv0
        subst hsp
        have hb : b < w.heap.size := by
          rcases Nat.lt_or_ge b w.heap.size with h | h
          · exact h
          · simp [World.cell?, Array.getElem?_eq_none h] at hv0
        refine ⟨b, off, rfl, fun i x hi => ?_⟩
        have hi' : i < len := by
          have := (List.getElem?_eq_some_iff.1 hi).1
          simpa using this
        have hxe : x = (f ⟨i, hi'⟩).2 := by
          rw [List.getElem?_ofFn, dif_pos hi'] at hi
          simpa using hi.symm
        subst hxe
        refine ⟨(f ⟨i, hi'⟩).1, (hf ⟨i, hi'⟩).2.1, hb, fun h => h.elim, fun j c hj => ?_⟩
        obtain ⟨_, hl2, hc2⟩ := World.cells?_some (hf ⟨i, hi'⟩).1
        have hj' : j < Rep.sz α := by rw [← hl2]; exact (List.getElem?_eq_some_iff.1 hj).1
        have := hc2 j hj'
        rw [addr_add, addr_add, hj] at this
        exact this
    · obtain ⟨i, rfl⟩ := (List.mem_ofFn).1 hx
      exact (hf i).2.2
end

/-! ## What the form's reach pays -/

/-- Every weight of the reading is within the reach. -/
def Wq {H : Type} (P : Program) (t : TypeId) (d : DataW H) : Prop := ∀ n ∈ d.weights P t, n ≤ reachBytes

theorem weights_all {H : Type} {P : Program} {e : TypeId} {d : DataW H} : ∀ {l : List (DataW H)}, d ∈ l → ∀ n ∈ d.weights P e, n ∈ DataW.weightsAll P e l
  | x :: r, h, n, hn => by
    simp only [DataW.weightsAll, List.mem_append]
    rcases List.mem_cons.1 h with rfl | h
    · exact .inl hn
    · exact .inr (weights_all h n hn)

theorem wq_slice {H : Type} {P : Program} {t e : TypeId} (ht : P.underlying t = some (.slice e)) (hb : 0 < P.bytesOf e) (el sp : List (DataW H)) (h : Wq P t (.slice el sp)) :
    el.length < 140737488355328 ∧ ∀ d ∈ el, Wq P e d := by
  have hw : (DataW.slice el sp).weights P t = (el.length + sp.length) * P.bytesOf e :: (DataW.weightsAll P e el ++ DataW.weightsAll P e sp) := by simp [DataW.weights, ht]
  constructor
  · have h1 := h _ (by rw [hw]; exact List.mem_cons_self)
    have h2 : reachBytes < 140737488355328 := by decide
    have h3 : el.length ≤ (el.length + sp.length) * P.bytesOf e := Nat.le_trans (Nat.le_add_right _ _) (Nat.le_mul_of_pos_right _ hb)
    omega
  · intro d hd n hn
    exact h n (by rw [hw]; exact List.mem_cons_of_mem _ (List.mem_append_left _ (weights_all hd n hn)))

theorem wq_string {H : Type} {P : Program} {t : TypeId} (l : List UInt8) (h : Wq (H := H) P t (.lit (.string l))) : l.length < 140737488355328 := by
  have h1 := h l.length (by simp [DataW.weights])
  have h2 : reachBytes < 140737488355328 := by decide
  omega

theorem wq_each {H : Type} {P : Program} {ts : List TypeId} {ds : List (DataW H)} (h : (DataW.weightsEach P ts ds).all (· ≤ reachBytes) = true) {j : Nat} {t : TypeId} {d : DataW H} (ht : ts[j]? = some t) (hd : ds[j]? = some d) : Wq P t d := by
  intro n hn
  simpa using List.all_eq_true.1 h n (DataW.weights_mem_each ht hd n hn)

/-- A slice that came in. -/
theorem opens_arg {H : Type} {P : Program} {Q : TypeId → DataW H → Prop} {α : Type} [Rep α] {t e : TypeId} {p : List α → Prop} (_ht : P.underlying t = some (.slice e)) (ho : Opens P Q t p) {enc : TypeId × Value → H} {w : World} {a : Option Addr} {len cap : Nat} {d : DataW H} {ps : List MemPlace}
    (h : DataW.Trod enc P w 0 (fun _ => true) true t (.slice a len cap) d ps) (hQ : Q t d) : ∃ l : List α, Sl NoM w (.slice a len cap) l ∧ p l := by
  obtain ⟨fuel, hf⟩ := h
  obtain ⟨v, l, hv, hR, hp⟩ := ho.read enc w fuel _ _ _ hf hQ
  refine ⟨l, ?_, hp⟩
  have hR' : Sl NoM w v l := hR
  obtain ⟨a', c', rfl, _⟩ := id hR'
  simp [Value.cells] at hv
  obtain ⟨h1, h2, h3⟩ := hv
  subst h1; subst h2; subst h3
  exact hR'
end Rw
