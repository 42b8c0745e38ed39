/- Rules for walking a Go function's code, part eight: maps. No program in sight. -/
import Derived.Test.YtohfnpmehgpphaaMem
import Derived.Maps.Own
namespace Rw
open Go Go.RowKit

theorem ba_beq (x y : ByteArray) : (x == y) = true ↔ x = y := by
  cases x with | mk a => cases y with | mk b =>
  show (a == b) = true ↔ _
  simp

/-- Keys: their values, compared at once. -/
class Key (κ : Type) where
  val : κ → Value
  fit : TypeDesc → Prop
  same : ∀ {d : TypeDesc}, fit d → ∀ x y : κ, ∃ b : Bool, Instr.sameNow d (val x) (val y) = some b ∧ (b = true ↔ x = y)
  bits : ∀ x : κ, Instr.sameBits 10000 (val x) (val x) = true
  chk : ∀ {P : Program} {t : TypeId} {d : TypeDesc}, P.underlying t = some d → fit d → ∀ (e : Bool) (x : κ) (w : World), (Instr.checkKey e 10000 t (val x)).run P w = .ok () w
instance : Key Int where
  val := fun n => .int .i64 n
  fit := fun d => d = .int .i64
  same := by
    rintro d rfl x y
    exact ⟨x == y, by simp [Instr.sameNow], by simp⟩
  bits := by intro x; unfold Instr.sameBits; simp
  chk := by
    rintro P t d hd rfl e x w
    show (Instr.checkKey e (9999 + 1) t _).run P w = _
    unfold Instr.checkKey
    simp [run_underlying hd]
instance : Key ByteArray where
  val := fun s => .string s
  fit := fun d => d = .string
  same := by
    rintro d rfl x y
    exact ⟨x == y, rfl, ba_beq x y⟩
  bits := by intro x; unfold Instr.sameBits; exact (ba_beq x x).2 rfl
  chk := by
    rintro P t d hd rfl e x w
    show (Instr.checkKey e (9999 + 1) t _).run P w = _
    unfold Instr.checkKey
    simp [run_underlying hd]

/-- A map's block: its entries, in a row, are these. -/
structure MapL {κ ν : Type} [Key κ] (va : ν → Value) (w : World) (b : Nat) (l : List (κ × ν)) : Prop where
  ex : ∃ es clock, w.heap[b]? = some (.map es clock) ∧ es.toList.map (fun e => (e.key, e.val)) = l.map (fun p => (Key.val p.1, va p.2)) ∧ (∀ e ∈ es.toList, e.born < clock) ∧ (es.toList.map (·.born)).Nodup
  keys : (l.map (·.1)).Nodup

/-- What a map holds. -/
def getK {κ ν : Type} [DecidableEq κ] (l : List (κ × ν)) (k : κ) : Option ν := (l.find? (fun p => decide (p.1 = k))).map (·.2)
def putK {κ ν : Type} [DecidableEq κ] (l : List (κ × ν)) (k : κ) (v : ν) : List (κ × ν) := match l.findIdx? (fun p => decide (p.1 = k)) with
  | some i => l.set i (k, v)
  | none => l ++ [(k, v)]

section
variable {κ ν : Type} [Key κ] [DecidableEq κ] {va : ν → Value} {w w' : World} {b : Nat} {l : List (κ × ν)}

theorem MapL.lt {κ ν : Type} [Key κ] {va : ν → Value} {w : World} {b : Nat} {l : List (κ × ν)} (h : MapL va w b l) : b < w.heap.size := by
  obtain ⟨es, clock, hb, _⟩ := h.ex
  exact (Array.getElem?_eq_some_iff.1 hb).1
theorem MapL.keep {κ ν : Type} [Key κ] {va : ν → Value} {w w' : World} {b : Nat} {l : List (κ × ν)} (h : MapL va w b l) (e : w'.heap[b]? = w.heap[b]?) : MapL va w' b l := by
  obtain ⟨es, clock, hb, h2⟩ := h.ex
  exact ⟨⟨es, clock, e.trans hb, h2⟩, h.keys⟩
theorem MapL.ext {κ ν : Type} [Key κ] {va : ν → Value} {w w' : World} {b : Nat} {l : List (κ × ν)} (h : MapL va w b l) (e : Ext w w') : MapL va w' b l := h.keep (e.block b h.lt)

theorem findNow_spec {d : TypeDesc} (hd : Key.fit κ d) (k : κ) : ∀ (es : List MapEntry) (l : List (κ × ν)) (i : Nat), es.map (fun e => (e.key, e.val)) = l.map (fun p => (Key.val p.1, va p.2)) →
    Instr.findNow d (Key.val k) es i = some ((l.findIdx? (fun p => decide (p.1 = k))).bind fun j => (l[j]?).map fun p => (i + j, va p.2))
  | [], [], i, _ => by simp [Instr.findNow]
  | e :: es, p :: l, i, h => by
    simp only [List.map_cons, List.cons.injEq, Prod.mk.injEq] at h
    obtain ⟨⟨h1, h2⟩, h3⟩ := h
    unfold Instr.findNow
    rw [h1]
    obtain ⟨c, hc, hck⟩ := Key.same hd k p.1
    rw [hc, List.findIdx?_cons]
    cases c with
    | true =>
      have : p.1 = k := (hck.1 rfl).symm
      simp [this, h2]
    | false =>
      have hne : ¬ p.1 = k := fun e => by have := hck.2 e.symm; cases this
      simp only [hne, decide_false]
      rw [findNow_spec hd k es l (i + 1) h3]
      cases hf : l.findIdx? (fun p => decide (p.1 = k)) with
      | none => simp
      | some j => simp [Nat.add_assoc, Nat.add_comm 1 j]
  | [], _ :: _, _, h => by simp at h
  | _ :: _, [], _, h => by simp at h

theorem getK_idx {κ ν : Type} [DecidableEq κ] (l : List (κ × ν)) (k : κ) : getK l k = (l.findIdx? (fun p => decide (p.1 = k))).bind fun j => (l[j]?).map (·.2) := by
  induction l with
  | nil => rfl
  | cons p l ih =>
    unfold getK at ih ⊢
    rw [List.find?_cons, List.findIdx?_cons]
    by_cases h : p.1 = k
    · simp [h]
    · simp only [h, decide_false]
      rw [ih]
      cases hf : l.findIdx? (fun p => decide (p.1 = k)) with
      | none => simp
      | some j => simp

theorem find_run {P : Program} {t : TypeId} {d : TypeDesc} (hd : P.underlying t = some d) (hf : Key.fit κ d) (k : κ) (h : MapL va w b l) {es : Array MapEntry} {clock : Nat} (hb : w.heap[b]? = some (.map es clock)) :
    (Instr.findKey t (Key.val k) es.toList).run P w = .ok ((l.findIdx? (fun p => decide (p.1 = k))).bind fun j => (l[j]?).map fun p => (j, va p.2)) w := by
  obtain ⟨es', clock', hb', hl, _⟩ := h.ex
  rw [hb] at hb'
  cases hb'
  have := findNow_spec hf k es.toList l 0 hl
  simp only [Nat.zero_add] at this
  unfold Instr.findKey
  simp only [Sem.run_bind, run_underlying hd, Result.andThen_ok, this, Sem.run_pure]

theorem getK_put {κ ν : Type} [DecidableEq κ] (l : List (κ × ν)) (k : κ) (v : ν) (x : κ) : getK (putK l k v) x = if x = k then some v else getK l x := by
  unfold putK
  induction l with
  | nil => by_cases h : x = k <;> simp [getK, h, eq_comm]
  | cons p l ih =>
    rw [List.findIdx?_cons]
    by_cases hp : p.1 = k
    · simp only [hp, decide_true, if_true]
      unfold getK
      by_cases h : x = k
      · subst h; simp [hp]
      · have h' : ¬ k = x := fun e => h e.symm
        simp [hp, h, h']
    · simp only [hp, decide_false]
      have hput : getK (match (Option.map (· + 1) (l.findIdx? (fun p => decide (p.1 = k)))) with | some i => (p :: l).set i (k, v) | none => (p :: l) ++ [(k, v)]) x = getK (p :: (match l.findIdx? (fun p => decide (p.1 = k)) with | some i => l.set i (k, v) | none => l ++ [(k, v)])) x := by
        cases l.findIdx? (fun p => decide (p.1 = k)) with
        | none => rfl
        | some i => rfl
      simp only [Bool.false_eq_true, if_false]
      rw [hput]
      unfold getK at ih ⊢
      rw [List.find?_cons, List.find?_cons]
      by_cases h : p.1 = x
      · have : ¬ x = k := fun e => hp (h.trans e)
        simp [h, this]
      · simp only [h, decide_false]
        exact ih
end

section
variable {P : Program} {T : Tab} {n : Nat} {ops : Array Oper} {Q : Exit → Act → World → Prop} {G : Env} {w : World} {K : Env → World → Prop}
  {d ty : Nat} {pos : String} {af : Array Edge} {g : Option (Nat × Bool)}
variable {κ ν : Type} [Key κ] [DecidableEq κ] {va : ν → Value} {b : Nat} {l : List (κ × ν)}

/-- make(map[K]V). -/
theorem o_mkmap {κ ν : Type} [Key κ] {va : ν → Value} {t : TypeId} (hg : gd ops G ⟨some d, .makeMap t none, ty, pos, af, g⟩ = some true) (hdn : Nat.blt d n = true)
    (h : ∀ b w', b = w.heap.size → Ext w w' → b < w'.heap.size → MapL va w' b ([] : List (κ × ν)) → K ((d, .map (some b)) :: G) w') : OW P n ops Q G w ⟨some d, .makeMap t none, ty, pos, af, g⟩ K := by
  refine o_val (w' := w.alloc (.map #[] 0)) hg rfl hdn (fun a _ => ?_) (h w.heap.size _ rfl (ext_alloc _ _) ?_ ⟨⟨#[], 0, heap_alloc_new w _, rfl, by simp, by simp⟩, by simp⟩)
  · simp [execOp, Instr.makeMap]
  · simp

theorem lookup_run {P : Program} {t tk te : TypeId} {ck : Bool} {z : ν} {dk : TypeDesc} (ht : P.underlying t = some (.map tk te)) (hk : P.underlying tk = some dk) (hf : Key.fit κ dk) (hz : (zeroValue te).run P w = .ok (va z) w)
    (hm : MapL va w b l) (k : κ) : (Instr.lookup t (.map (some b)) (Key.val k) ck).run P w = .ok (if ck then .tuple #[va ((getK l k).getD z), .bool (getK l k).isSome] else va ((getK l k).getD z)) w := by
  obtain ⟨es, clock, hb, hl, _⟩ := id hm.ex
  unfold Instr.lookup
  have hfr := find_run hk hf k hm hb
  simp only [Sem.run_bind, run_underlying ht, Result.andThen_ok]
  have hget := MapKept.run_getObj_map (P := P) hb
  simp only [Sem.run_bind, hget, Result.andThen_ok, Sem.run_pure, Key.chk hk hf, hfr]
  rw [getK_idx]
  cases hi : l.findIdx? (fun p => decide (p.1 = k)) with
  | none => cases ck <;> simp [hz]
  | some j =>
    have hj : j < l.length := by
      rw [List.findIdx?_eq_some_iff_getElem] at hi
      exact hi.choose
    cases ck <;> simp [List.getElem?_eq_getElem hj]

theorem putK_keys {κ ν : Type} [DecidableEq κ] (l : List (κ × ν)) (k : κ) (v : ν) (h : (l.map (·.1)).Nodup) : ((putK l k v).map (·.1)).Nodup := by
  unfold putK
  cases hi : l.findIdx? (fun p => decide (p.1 = k)) with
  | some i =>
    rw [List.findIdx?_eq_some_iff_getElem] at hi
    obtain ⟨hil, h1, _⟩ := hi
    have h1' : l[i].1 = k := of_decide_eq_true h1
    have : (l.set i (k, v)).map (·.1) = l.map (·.1) := by
      rw [List.map_set]
      apply List.ext_getElem?
      intro j
      rw [List.getElem?_set]
      by_cases e : i = j
      · subst e; simp [hil, h1']
      · simp [e]
    simp only [this]
    exact h
  | none =>
    rw [List.findIdx?_eq_none_iff] at hi
    simp only [List.map_append, List.map_cons, List.map_nil]
    rw [List.nodup_append]
    refine ⟨h, by simp, fun x hx y hy => ?_⟩
    simp only [List.mem_singleton] at hy
    subst hy
    obtain ⟨p, hp, rfl⟩ := List.mem_map.1 hx
    have := hi p hp
    simpa using this

theorem update_run {P : Program} {t tk te : TypeId} {dk : TypeDesc} (ht : P.underlying t = some (.map tk te)) (hk : P.underlying tk = some dk) (hf : Key.fit κ dk) (hm : MapL va w b l) (k : κ) (v : ν) :
    ∃ w', (Instr.mapUpdate t (.map (some b)) (Key.val k) (va v)).run P w = .ok () w' ∧ MapL va w' b (putK l k v) ∧ Upd (fun z => z = b) w w' ∧ ∀ B, B ≤ b → Below B w w' := by
  obtain ⟨es, clock, hb, hl, hborn, hnd⟩ := id hm.ex
  have hlen : es.size = l.length := by have := congrArg List.length hl; simpa using this
  have hfr := find_run hk hf k hm hb
  have frame : ∀ o : Obj, Upd (fun z => z = b) w (ChangeMaps.setBlock w b o) ∧ ∀ B, B ≤ b → Below B w (ChangeMaps.setBlock w b o) := by
    intro o
    refine ⟨⟨by simp [ChangeMaps.setBlock], fun x _ hx => ChangeMaps.heap_setBlock_other hb o hx⟩, fun B hB => ⟨rfl, rfl, rfl, by simp [ChangeMaps.setBlock], fun x hx => ChangeMaps.heap_setBlock_other hb o (by omega)⟩⟩
  have hpk := putK_keys l k v hm.keys
  unfold putK at hpk ⊢
  cases hi : l.findIdx? (fun p => decide (p.1 = k)) with
  | none =>
    simp only [hi] at hfr hpk
    refine ⟨ChangeMaps.setBlock w b (.map (es.push ⟨Key.val k, va v, clock⟩) (clock + 1)), ?_, ⟨⟨_, _, ChangeMaps.heap_setBlock_same hb _, ?_, ?_, ?_⟩, hpk⟩, frame _⟩
    · simp [Instr.mapUpdate, run_underlying ht, MapKept.run_getObj_map hb, Key.chk hk hf, hfr, MapKept.run_setObj_map _ hb, Result.andThen, ChangeMaps.setBlock]
    · simp [hl]
    · intro e he
      simp only [Array.toList_push, List.mem_append, List.mem_singleton] at he
      rcases he with he | rfl
      · have := hborn e he; omega
      · exact Nat.lt_succ_self _
    · simp only [Array.toList_push, List.map_append, List.map_cons, List.map_nil]
      rw [List.nodup_append]
      refine ⟨hnd, by simp, fun x hx y hy => ?_⟩
      simp only [List.mem_singleton] at hy
      subst hy
      obtain ⟨e, he, rfl⟩ := List.mem_map.1 hx
      have := hborn e he
      omega
  | some i =>
    simp only [hi] at hfr hpk
    have hi' := hi
    rw [List.findIdx?_eq_some_iff_getElem] at hi'
    obtain ⟨hil, h1, _⟩ := hi'
    have h1' : l[i].1 = k := of_decide_eq_true h1
    have hie : i < es.size := by omega
    have hkey : es[i].key = Key.val k := by
      have := congrArg (fun m => m[i]?) hl
      simp [hie, hil] at this
      rw [this.1, h1']
    simp only [List.getElem?_eq_getElem hil, Option.bind_some, Option.map_some] at hfr
    refine ⟨ChangeMaps.setBlock w b (.map (es.modify i fun e => { e with key := Key.val k, val := va v }) clock), ?_, ⟨⟨_, _, ChangeMaps.heap_setBlock_same hb _, ?_, ?_, ?_⟩, hpk⟩, frame _⟩
    · have hst : (Instr.keyThatStays (Key.val k) (Key.val k)).run P w = .ok (Key.val k) w := by simp [Instr.keyThatStays, Key.bits k]
      simp [Instr.mapUpdate, run_underlying ht, MapKept.run_getObj_map hb, Key.chk hk hf, hfr, MapKept.run_setObj_map _ hb, Result.andThen, ChangeMaps.setBlock, hie, hkey, hst]
    · apply List.ext_getElem?
      intro j
      have := congrArg (fun m => m[j]?) hl
      simp only [List.getElem?_map, Array.getElem?_toList] at this ⊢
      rw [List.getElem?_set, Array.getElem?_modify]
      by_cases e : i = j
      · subst e; simp [hie, hil]
      · simp only [e, if_false]; exact this
    · intro e he
      obtain ⟨j, hj, rfl⟩ := List.getElem_of_mem he
      have hj' : j < es.size := by simpa using hj
      have := hborn es[j] (by simp)
      simp only [Array.getElem_toList, Array.getElem_modify]
      split <;> exact this
    · have : ((es.modify i fun e => { e with key := Key.val k, val := va v }).toList.map (·.born)) = es.toList.map (·.born) := by
        apply List.ext_getElem?
        intro j
        simp only [List.getElem?_map, Array.getElem?_toList, Array.getElem?_modify]
        by_cases e : i = j
        · subst e; simp [hie]
        · simp [e]
      rw [this]; exact hnd

/-- m[k] = v. -/
theorem o_mupd {t tk te : TypeId} {x y z : Operand} {ti : TI} (hT : TabOk P T) (hm : MapL va w b l) {k : κ} {v : ν} (hx : Env.ev G x = some (.map (some b))) (hy : Env.ev G y = some (Key.val k)) (hz : Env.ev G z = some (va v))
    (ht : T.get t = some ti) (htd : ti.d = .mp tk te) (htk : ∃ dk, P.underlying tk = some dk ∧ Key.fit κ dk)
    (hg : gd ops G ⟨none, .mapUpdate t x y z, ty, pos, af, g⟩ = some true)
    (h : ∀ w', MapL va w' b (putK l k v) → Upd (fun z => z = b) w w' → (∀ B, B ≤ b → Below B w w') → K G w') : OW P n ops Q G w ⟨none, .mapUpdate t x y z, ty, pos, af, g⟩ K := by
  have hd := (hT t ti ht).d
  rw [htd] at hd
  obtain ⟨dk, hk, hf⟩ := htk
  obtain ⟨w', hrun, h1, h2, h3⟩ := update_run hd hk hf hm k v
  exact o_unit (w' := w') hg rfl (fun a ha => by simp [execOp, ha.ev hx, ha.ev hy, ha.ev hz, hrun]) (h w' h1 h2 h3)

/-- m[k], v and ok. -/
theorem o_look {t tk te : TypeId} {x y : Operand} {ck : Bool} {z : ν} {ti tie : TI} (hT : TabOk P T) (hm : MapL va w b l) {k : κ} (hx : Env.ev G x = some (.map (some b))) (hy : Env.ev G y = some (Key.val k))
    (ht : T.get t = some ti) (htd : ti.d = .mp tk te) (htk : ∃ dk, P.underlying tk = some dk ∧ Key.fit κ dk) (hte : T.get te = some tie) (hz : tie.zero = va z)
    (hg : gd ops G ⟨some d, .lookup t x y ck, ty, pos, af, g⟩ = some true) (hdn : Nat.blt d n = true)
    (h : K ((d, if ck then .tuple #[va ((getK l k).getD z), .bool (getK l k).isSome] else va ((getK l k).getD z)) :: G) w) : OW P n ops Q G w ⟨some d, .lookup t x y ck, ty, pos, af, g⟩ K := by
  have hd := (hT t ti ht).d
  rw [htd] at hd
  obtain ⟨dk, hk, hf⟩ := htk
  refine o_val hg rfl hdn (fun a ha => ?_) h
  have hzr := run_zeroValue' hT hte (P := P)
  rw [hz] at hzr
  simp [execOp, ha.ev hx, ha.ev hy, lookup_run hd hk hf (hzr w) hm k]
end
end Rw
