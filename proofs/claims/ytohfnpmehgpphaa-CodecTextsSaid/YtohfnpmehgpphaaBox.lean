/- Rules for walking a Go function's code, part nine: variables and maps of the call's own that are written, results that lie in variables. No program in sight. -/
import Derived.Test.YtohfnpmehgpphaaMap
namespace Rw
open Go Go.RowKit

theorem get_num {G : Env} {j : Nat} {k : IntKind} {x y : Int} (h : Env.get G j = some (.int k x)) (e : x = y) : Env.get G j = some (.int k y) := by rw [h, e]
theorem get_bool {G : Env} {j : Nat} {x y : Bool} (h : Env.get G j = some (.bool x)) (e : x = y) : Env.get G j = some (.bool y) := by rw [h, e]

/-- A variable of the call's own (its block from B on, and in M). -/
structure MB (B : Nat) (M : Nat → Prop) (w : World) (b T : Nat) (cs : List Value) : Prop where
  box : Box w b T cs
  inM : M b
  ge : B ≤ b
/-- A map that the call writes. -/
structure OM {κ ν : Type} [Key κ] (va : ν → Value) (B : Nat) (M : Nat → Prop) (w : World) (b : Nat) (l : List (κ × ν)) : Prop where
  map : MapL va w b l
  inM : M b
  ge : B ≤ b

section
variable {B : Nat} {M M' : Nat → Prop} {w w' : World} {b T : Nat} {cs : List Value}
theorem MB.lt (h : MB B M w b T cs) : b < w.heap.size := h.box.lt
theorem MB.cell (h : MB B M w b T cs) (j : Nat) (v : Value) (hv : cs[j]? = some v) : w.cell? ⟨b, 0 + j, none⟩ = some v := h.box.cell j v hv
theorem MB.stp (h : MB B M w b T cs) (s : Stp B M M' w w') (hb : w'.heap[b]? = w.heap[b]?) : MB B M' w' b T cs := ⟨⟨hb.trans h.box.heap⟩, s.sub b h.inM, h.ge⟩
theorem MB.ext (h : MB B M w b T cs) (_hl : Low M w) (_hB : B ≤ w.heap.size) (e : Ext w w') : MB B M w' b T cs := ⟨h.box.ext e, h.inM, h.ge⟩
theorem MB.mk' (h : Box w b T cs) {w0 : World} (q : b = w0.heap.size) (hB : B ≤ w0.heap.size) : MB B (Add M b) w b T cs := ⟨h, .inr rfl, by omega⟩

variable {κ ν : Type} [Key κ] {va : ν → Value} {l : List (κ × ν)}
theorem OM.lt (h : OM va B M w b l) : b < w.heap.size := h.map.lt
theorem OM.stp (h : OM va B M w b l) (s : Stp B M M' w w') (hb : w'.heap[b]? = w.heap[b]?) : OM va B M' w' b l := ⟨h.map.keep hb, s.sub b h.inM, h.ge⟩
theorem OM.ext (h : OM va B M w b l) (_hl : Low M w) (_hB : B ≤ w.heap.size) (e : Ext w w') : OM va B M w' b l := ⟨h.map.ext e, h.inM, h.ge⟩
theorem OM.mk' (h : MapL va w b l) {w0 : World} (q : b = w0.heap.size) (hB : B ≤ w0.heap.size) : OM va B (Add M b) w b l := ⟨h, .inr rfl, by omega⟩
end

/-- From world to world: one block may be written; what is new is new. -/
structure UpdB (b : Nat) (w w' : World) : Prop where
  upd : Upd (fun z => z = b) w w'
  below : ∀ B, B ≤ b → Below B w w'
section
variable {b : Nat} {w w' w'' : World}
theorem UpdB.ext (h : Ext w w') (hb : b < w.heap.size) : UpdB b w w' := ⟨⟨h.size, fun x hx _ => h.block x hx⟩, fun B hB => Below.mono h (by omega)⟩
theorem UpdB.refl (b : Nat) (w : World) : UpdB b w w := ⟨⟨Nat.le_refl _, fun _ _ _ => rfl⟩, fun _ _ => Below.refl _ _⟩
theorem UpdB.trans (h : UpdB b w w') (k : UpdB b w' w'') : UpdB b w w'' :=
  ⟨⟨Nat.le_trans h.upd.1 k.upd.1, fun x hx hn => (k.upd.2 x (Nat.lt_of_lt_of_le hx h.upd.1) hn).trans (h.upd.2 x hx hn)⟩, fun B hB => (h.below B hB).trans (k.below B hB)⟩
theorem UpdB.stp {B : Nat} {M : Nat → Prop} (h : UpdB b w w') (hM : M b) (hl : Low M w) (hB : B ≤ b) : Stp B M M w w' := Upd.stp h.upd hM hl h.below hB
/-- Of a block that was new, nothing old has been written. -/
theorem UpdB.new (h : UpdB b w w') {w0 : World} (e : Ext w0 w) (q : w0.heap.size ≤ b) : Ext w0 w' := Below.trans e (h.below _ q)
/-- All that is in M is in one block. -/
theorem UpdB.of {M M' : Nat → Prop} {B : Nat} (s : Stp B M M' w w') (fr : ∀ x, x < w.heap.size → x ≠ b → w'.heap[x]? = w.heap[x]?) (hb : ∀ C, C ≤ b → Below C w w') : UpdB b w w' := ⟨⟨s.upd.1, fr⟩, hb⟩
end

section
variable {P : Program} {T : Tab} {n : Nat} {G : Env} {w : World}
theorem x_ret1s {fn : Func} {R : Value → World → Prop} {a t b o : Nat} {cs : List Value} {ti : TI} (hT : TabOk P T) (hc : ∀ j v, cs[j]? = some v → w.cell? ⟨b, o + j, none⟩ = some v) (hr : fn.results = #[.cell a t]) (hx : Env.get G a = some (.pointer (some ⟨b, o, none⟩)))
    (ht : T.get t = some ti) (hta : ti.d.agg = true) (hl : cs.length = ti.size) (h : R (.agg cs.toArray) w) : WX n (bodyPost P fn (Ret R)) G w .ret := by
  intro ac ha
  have hlc : (loadCells ⟨b, o, none⟩ ti.size).run P w = .ok cs.toArray w := by
    rw [← hl]
    exact run_loadCells_list (P := P) w ⟨b, o, none⟩ cs (fun j v hv => by rw [addr_add]; exact hc j v hv)
  exact ⟨ha.defers, .agg cs.toArray, by simp [results, hr, Array.getD_eq_getD_getElem?, ha.val a _ hx, asAddr, loadVar, run_isAgg hT ht, hta, run_sizeOf hT ht, hlc], h⟩
theorem x_ret2ts {fn : Func} {R : Value → World → Prop} {u a t b o : Nat} {x : Value} {cs : List Value} {ti : TI} (hT : TabOk P T) (hc : ∀ j v, cs[j]? = some v → w.cell? ⟨b, o + j, none⟩ = some v) (hr : fn.results = #[.tmp u, .cell a t]) (hu : Env.get G u = some x)
    (hx : Env.get G a = some (.pointer (some ⟨b, o, none⟩)))
    (ht : T.get t = some ti) (hta : ti.d.agg = true) (hl : cs.length = ti.size) (h : R (.tuple #[x, .agg cs.toArray]) w) : WX n (bodyPost P fn (Ret R)) G w .ret := by
  intro ac ha
  have hlc : (loadCells ⟨b, o, none⟩ ti.size).run P w = .ok cs.toArray w := by
    rw [← hl]
    exact run_loadCells_list (P := P) w ⟨b, o, none⟩ cs (fun j v hv => by rw [addr_add]; exact hc j v hv)
  exact ⟨ha.defers, _, by simp [results, hr, Array.getD_eq_getD_getElem?, ha.val u _ hu, ha.val a _ hx, asAddr, loadVar, run_isAgg hT ht, hta, run_sizeOf hT ht, hlc], h⟩
theorem x_ret2st {fn : Func} {R : Value → World → Prop} {u a t b o : Nat} {x : Value} {cs : List Value} {ti : TI} (hT : TabOk P T) (hc : ∀ j v, cs[j]? = some v → w.cell? ⟨b, o + j, none⟩ = some v) (hr : fn.results = #[.cell a t, .tmp u]) (hu : Env.get G u = some x)
    (hx : Env.get G a = some (.pointer (some ⟨b, o, none⟩)))
    (ht : T.get t = some ti) (hta : ti.d.agg = true) (hl : cs.length = ti.size) (h : R (.tuple #[.agg cs.toArray, x]) w) : WX n (bodyPost P fn (Ret R)) G w .ret := by
  intro ac ha
  have hlc : (loadCells ⟨b, o, none⟩ ti.size).run P w = .ok cs.toArray w := by
    rw [← hl]
    exact run_loadCells_list (P := P) w ⟨b, o, none⟩ cs (fun j v hv => by rw [addr_add]; exact hc j v hv)
  exact ⟨ha.defers, _, by simp [results, hr, Array.getD_eq_getD_getElem?, ha.val u _ hu, ha.val a _ hx, asAddr, loadVar, run_isAgg hT ht, hta, run_sizeOf hT ht, hlc], h⟩
theorem x_ret3 {fn : Func} {R : Value → World → Prop} {t u s : Nat} {v x y : Value} (hr : fn.results = #[.tmp t, .tmp u, .tmp s]) (hv : Env.get G t = some v) (hx : Env.get G u = some x) (hy : Env.get G s = some y) (h : R (.tuple #[v, x, y]) w) : WX n (bodyPost P fn (Ret R)) G w .ret :=
  fun a ha => ⟨ha.defers, _, by simp [results, hr, Array.getD_eq_getD_getElem?, ha.val t v hv, ha.val u x hx, ha.val s y hy], h⟩
theorem x_ret4 {fn : Func} {R : Value → World → Prop} {t u s q : Nat} {v x y z : Value} (hr : fn.results = #[.tmp t, .tmp u, .tmp s, .tmp q]) (hv : Env.get G t = some v) (hx : Env.get G u = some x) (hy : Env.get G s = some y) (hz : Env.get G q = some z) (h : R (.tuple #[v, x, y, z]) w) : WX n (bodyPost P fn (Ret R)) G w .ret :=
  fun a ha => ⟨ha.defers, _, by simp [results, hr, Array.getD_eq_getD_getElem?, ha.val t v hv, ha.val u x hx, ha.val s y hy, ha.val q z hz], h⟩
end

section
variable {P : Program} {n : Nat} {G : Env} {w : World} {Q : Exit → Act → World → Prop} {c : Code}
theorem Models.dup {a : Act} (ha : Models n a G) {t : Nat} {v : Value} (hv : Env.get G t = some v) : Models n a ((t, v) :: G) :=
  ⟨ha.size, ha.defers, fun k u hu => by
    rw [Env.get_cons] at hu
    by_cases hk : t = k
    · subst hk; simp at hu; subst hu; exact ha.val t _ hv
    · rw [if_neg hk] at hu; exact ha.val k u hu⟩
/-- Split on a slot's truth, and write it into the list. -/
theorem c_split (t : Nat) (b : Bool) (hc : Env.get G t = some (.bool b)) (ht : b = true → WC P n Q ((t, .bool true) :: G) w c) (hf : b = false → WC P n Q ((t, .bool false) :: G) w c) : WC P n Q G w c := by
  intro a ha
  cases b with
  | true => exact ht rfl a (ha.dup hc)
  | false => exact hf rfl a (ha.dup hc)
theorem c_splitP (t : Nat) (p : Prop) [Decidable p] (hc : Env.get G t = some (.bool (decide p))) (ht : p → WC P n Q ((t, .bool true) :: G) w c) (hf : ¬ p → WC P n Q ((t, .bool false) :: G) w c) : WC P n Q G w c :=
  c_split t _ hc (fun h => ht (of_decide_eq_true h)) (fun h => hf (of_decide_eq_false h))
theorem c_splitN (t : Nat) (p : Prop) [Decidable p] (hc : Env.get G t = some (.bool (!decide p))) (ht : ¬ p → WC P n Q ((t, .bool true) :: G) w c) (hf : p → WC P n Q ((t, .bool false) :: G) w c) : WC P n Q G w c :=
  c_split t _ hc (fun h => ht (by simpa using h)) (fun h => hf (by simpa using h))
theorem c_splitB (t : Nat) (b : Bool) (hc : Env.get G t = some (.bool (!b))) (ht : b = false → WC P n Q ((t, .bool true) :: G) w c) (hf : b = true → WC P n Q ((t, .bool false) :: G) w c) : WC P n Q G w c :=
  c_split t _ hc (fun h => ht (by simpa using h)) (fun h => hf (by simpa using h))
end
end Rw
