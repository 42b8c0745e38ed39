/- Part 5 of the proof: rules, plain laws and walks, merged out of smaller texts. -/
import Derived.Test.YtohfnpmehgpphaaW4
namespace Rw
open Go Go.RowKit
open Go.Proofs.Ytohfnpmehgpphaa.Rows (uptoBulk uptoBulkAll uptoSmall)
section
variable {H : Type}
theorem bulk_one (d : DataW H) : 1 ≤ uptoBulk d := by
  cases d with
  | lit l => cases l <;> simp [uptoBulk]
  | nil => simp [uptoBulk]
  | ptr d => simp [uptoBulk]
  | slice elems spare => simp [uptoBulk]
  | agg parts => simp [uptoBulk]
  | iface t d => simp [uptoBulk]
  | map entries => simp [uptoBulk]
  | held h => simp [uptoBulk]
theorem bulk_all : ∀ (l : List (DataW H)), uptoBulkAll l = (l.map uptoBulk).sum
  | [] => by simp [uptoBulkAll]
  | x :: r => by simp [uptoBulkAll, bulk_all r]
theorem bulk_str (l : List UInt8) : uptoBulk (DataW.lit (H := H) (.string l)) = l.length + 1 := by simp [uptoBulk]
theorem bulk_slice (l s : List (DataW H)) : uptoBulk (.slice l s) = uptoBulkAll l + uptoBulkAll s + 1 := by simp [uptoBulk]
theorem bulk_agg (l : List (DataW H)) : uptoBulk (.agg l) = uptoBulkAll l + 1 := by simp [uptoBulk]
theorem bulk_len (l : List (DataW H)) : l.length ≤ uptoBulkAll l := by
  induction l with
  | nil => simp
  | cons x r ih => have := bulk_one x; simp only [uptoBulkAll, List.length_cons]; omega
theorem bulk_mem {l : List (DataW H)} {d : DataW H} (h : d ∈ l) : uptoBulk d ≤ uptoBulkAll l := by
  induction l with
  | nil => cases h
  | cons x r ih =>
    simp only [uptoBulkAll]
    rcases List.mem_cons.1 h with e | e
    · subst e; omega
    · have := ih e; omega
theorem bulk_each {l : List (DataW H)} (h : uptoSmall H l = true) {j : Nat} {d : DataW H} (hd : l[j]? = some d) : uptoBulk d ≤ 1048576 := by
  have h1 : uptoBulkAll l ≤ 1048576 := by simpa [uptoSmall] using h
  exact Nat.le_trans (bulk_mem (List.mem_of_getElem? hd)) h1
/-- A type's readings, of bulk up to N, are things of α, of size at most that bulk. -/
structure OpensD (H : Type) {α : Type} [Rep α] (P : Program) (t : TypeId) (N : Nat) (sz : α → Nat) : Prop where
  cells : P.cellsOf t = Rep.sz α
  read : ∀ (enc : TypeId × Value → H) (w : World) (fuel : Nat) (cs : List Value) (d : DataW H) (ps : List MemPlace), DataW.trod enc P w 0 (fun _ => true) true fuel t cs = some (d, ps) → uptoBulk d ≤ N →
    ∃ (v : Value) (x : α), v.cells.toList = cs ∧ Rep.R NoM w v x ∧ sz x ≤ uptoBulk d
variable {P : Program}
theorem opensD_int {t : TypeId} (N : Nat) (ht : P.underlying t = some (.int .i64)) (hc : P.cellsOf t = 1) : OpensD H (α := Int) P t N (fun _ => 1) := by
  refine ⟨hc, fun enc w fuel cs d ps h _ => ?_⟩
  obtain ⟨n, rfl, _, hw⟩ := DataW.trod_int ht h
  refine ⟨.int .i64 n, n, rfl, ⟨rfl, ?_⟩, bulk_one d⟩
  have : -9223372036854775808 ≤ n ∧ n ≤ 9223372036854775807 := by simpa [Lit.wf, IntKind.min, IntKind.max, IntKind.signed, IntKind.bits] using hw
  exact this
theorem opensD_string {t : TypeId} (N : Nat) (hN : N < 140737488355328) (ht : P.underlying t = some .string) (hc : P.cellsOf t = 1) : OpensD H (α := ByteArray) P t N (fun s => 1 + s.size) := by
  refine ⟨hc, fun enc w fuel cs d ps h hQ => ?_⟩
  obtain ⟨s, rfl, hx, _⟩ := DataW.trod_string ht h
  cases hx
  rw [bulk_str] at hQ ⊢
  have e : s.data.toList.length = s.size := by simp
  exact ⟨.string s, s, rfl, ⟨rfl, by omega⟩, by omega⟩
theorem sum_le {α : Type} (f g : α → Nat) : ∀ (l : List α), (∀ x ∈ l, f x ≤ g x) → (l.map f).sum ≤ (l.map g).sum
  | [], _ => by simp
  | x :: l, h => by
    have := sum_le f g l (fun y hy => h y (List.mem_cons_of_mem _ hy))
    have := h x List.mem_cons_self
    simp only [List.map_cons, List.sum_cons]; omega
theorem opensD_slice {α : Type} [Rep α] {sz : α → Nat} {t e : TypeId} (N : Nat) (hN : N < 140737488355328) (ht : P.underlying t = some (.slice e)) (hc : P.cellsOf t = 1) (he : OpensD H P e (N - 1) sz) : OpensD H (α := List α) P t N (fun l => 1 + (l.map sz).sum) := by
  refine ⟨hc, fun enc w fuel cs d ps h hQ => ?_⟩
  rcases Go.Deep.open_slice ht h with ⟨rfl, _⟩ | ⟨a, len, cap, m, n, D, Pl, rfl, _, hl, _, hm, hx, hel⟩
  · exact ⟨.slice none 0 0, [], rfl, sl_nil, by have := bulk_one d; simpa using this⟩
  · have hm' : m = cap := by simpa using hm
    subst hm'
    have hd : d = .slice ((List.range len).map D) ((List.range (m - len)).map fun j => D (len + j)) := congrArg Prod.fst hx
    subst hd
    rw [bulk_slice] at hQ ⊢
    have hlen := bulk_len ((List.range len).map D)
    rw [List.length_map, List.length_range] at hlen
    have hlen' : len < 140737488355328 := by omega
    rw [he.cells] at hel
    have each : ∀ i : Fin len, ∃ y : Value × α, w.cells? 0 (a.add (i.1 * Rep.sz α)) (Rep.sz α) = some y.1.cells.toList ∧ Rep.R NoM w y.1 y.2 ∧ sz y.2 ≤ uptoBulk (D i.1) := by
      intro i
      obtain ⟨cs', h1, h2⟩ := hel i.1 (Nat.lt_of_lt_of_le i.2 hl)
      have hi : uptoBulk (D i.1) ≤ uptoBulkAll ((List.range len).map D) := bulk_mem (List.mem_map.2 ⟨i.1, List.mem_range.2 i.2, rfl⟩)
      obtain ⟨v, x, hv, hR, hp⟩ := he.read enc w n cs' _ _ h2 (by omega)
      exact ⟨(v, x), by rw [hv]; exact h1, hR, hp⟩
    obtain ⟨f, hf⟩ := Classical.axiomOfChoice each
    refine ⟨.slice (some a) len m, List.ofFn fun i => (f i).2, rfl, ⟨some a, m, by simp, by simpa using hlen', by simpa using hl, ?_⟩, ?_⟩
    · by_cases h0 : len = 0
      · subst h0; left; simp
      · right
        have hpos : 0 < Rep.sz α := Rep.pos
        obtain ⟨_, _, hc0⟩ := World.cells?_some (hf ⟨0, by omega⟩).1
        have hc00 := hc0 0 hpos
        have hlen0 := Rep.size (hf ⟨0, by omega⟩).2.1
        obtain ⟨b, off, spot⟩ := a
        have hsome : ∃ v, w.cell? ⟨b, off, spot⟩ = some v := by
          have e1 : (Addr.add ⟨b, off, spot⟩ (0 * Rep.sz α)).add 0 = ⟨b, off, spot⟩ := by simp [Addr.add]
          rw [e1] at hc00
          refine ⟨_, hc00.trans (List.getElem?_eq_getElem (by simpa [hlen0] using hpos))⟩
        obtain ⟨v0, hv0⟩ := hsome
        have hsp : spot = none := by
          cases spot with
          | none => rfl
          | some s => simp [World.cell?] at hv0; split at hv0 <;> simp at hv0
        subst hsp
        have hb : b < w.heap.size := by
          rcases Nat.lt_or_ge b w.heap.size with h | h
          · exact h
          · simp [World.cell?, Array.getElem?_eq_none h] at hv0
        refine ⟨b, off, rfl, fun i x hi => ?_⟩
        have hi' : i < len := by
          have := (List.getElem?_eq_some_iff.1 hi).1
          simpa using this
        have hxe : x = (f ⟨i, hi'⟩).2 := by
          rw [List.getElem?_ofFn, dif_pos hi'] at hi
          simpa using hi.symm
        subst hxe
        refine ⟨(f ⟨i, hi'⟩).1, (hf ⟨i, hi'⟩).2.1, hb, fun h => h.elim, fun j c hj => ?_⟩
        obtain ⟨_, hl2, hc2⟩ := World.cells?_some (hf ⟨i, hi'⟩).1
        have hj' : j < Rep.sz α := by rw [← hl2]; exact (List.getElem?_eq_some_iff.1 hj).1
        have := hc2 j hj'
        rw [addr_add, addr_add, hj] at this
        exact this
    · rw [bulk_all, List.map_map]
      have e1 : (List.range len).map (uptoBulk ∘ D) = List.ofFn fun i : Fin len => uptoBulk (D i.1) := by
        apply List.ext_getElem
        · simp
        · intro i h1 h2
          simp
      have e2 : (List.ofFn fun i => (f i).2).map sz = List.ofFn fun i : Fin len => sz (f i).2 := by rw [List.map_ofFn]; rfl
      rw [e1, e2]
      have key : ∀ (n : Nat) (g h : Fin n → Nat), (∀ i, g i ≤ h i) → (List.ofFn g).sum ≤ (List.ofFn h).sum := by
        intro n
        induction n with
        | zero => intro g h _; simp
        | succ n ih =>
          intro g h hgh
          rw [List.ofFn_succ, List.ofFn_succ, List.sum_cons, List.sum_cons]
          have := ih (fun i => g i.succ) (fun i => h i.succ) (fun i => hgh _)
          have := hgh 0
          omega
      have := key len _ _ (fun i => (hf i).2.2)
      omega
/-- A type's size: its parts and their names. -/
def tsz (t : Ty) : Nat := ((partsL t).map fun x => 1 + x.name.size).sum
theorem tsz_eq (t : Ty) : tsz t = 1 + t.name.size + (t.kids.map tsz).sum := by
  unfold tsz
  rw [partsL_eq, List.map_cons, List.sum_cons]
  congr 1
  induction t.kids with
  | nil => rfl
  | cons k r ih => rw [List.flatMap_cons, List.map_append, List.sum_append, ih, List.map_cons, List.sum_cons]
theorem psz_tsz (t : Ty) : psz t ≤ tsz t := by
  show (partsL t).length ≤ _
  unfold tsz
  induction partsL t with
  | nil => simp
  | cons k r ih => simp only [List.length_cons, List.map_cons, List.sum_cons]; omega
theorem opensD_ty {t tOp tStr tInt tSl : TypeId} {f0 f1 f2 f3 : Field} (ht : P.underlying t = some (.struct #[f0, f1, f2, f3])) (h0 : f0.offset = 0 ∧ f0.type = tOp) (h1 : f1.offset = 1 ∧ f1.type = tStr) (h2 : f2.offset = 2 ∧ f2.type = tInt) (h3 : f3.offset = 3 ∧ f3.type = tSl)
    (uOp : P.underlying tOp = some (.int .u8)) (cOp : P.cellsOf tOp = 1) (uStr : P.underlying tStr = some .string) (cStr : P.cellsOf tStr = 1) (uInt : P.underlying tInt = some (.int .i64)) (cInt : P.cellsOf tInt = 1) (uSl : P.underlying tSl = some (.slice t)) (cSl : P.cellsOf tSl = 1) (cT : P.cellsOf t = 4) :
    ∀ N, N < 140737488355328 → OpensD H (α := Ty) P t N tsz := by
  intro N
  induction N with
  | zero => exact fun _ => ⟨cT, fun enc w fuel cs d ps h hQ => by have := bulk_one d; omega⟩
  | succ N ih =>
    intro hN
    have ihS := opensD_slice (H := H) (P := P) (N + 1) hN uSl cSl (ih (by omega))
    refine ⟨cT, fun enc w fuel cs d ps h hQ => ?_⟩
    obtain ⟨xs, n, _, hx, hl, hxl, hf⟩ := DataW.trod_struct ht h
    cases hx
    rw [cT] at hl
    obtain ⟨c0, c1, c2, c3, rfl⟩ : ∃ c0 c1 c2 c3, cs = [c0, c1, c2, c3] := by
      rcases cs with _ | ⟨c0, _ | ⟨c1, _ | ⟨c2, _ | ⟨c3, _ | ⟨c4, r⟩⟩⟩⟩⟩ <;> simp at hl
      exact ⟨c0, c1, c2, c3, rfl⟩
    obtain ⟨x0, x1, x2, x3, rfl⟩ : ∃ x0 x1 x2 x3, xs = [x0, x1, x2, x3] := by
      rcases xs with _ | ⟨c0, _ | ⟨c1, _ | ⟨c2, _ | ⟨c3, _ | ⟨c4, r⟩⟩⟩⟩⟩ <;> simp at hxl
      exact ⟨c0, c1, c2, c3, rfl⟩
    have g0 := hf 0 f0 rfl
    have g1 := hf 1 f1 rfl
    have g2 := hf 2 f2 rfl
    have g3 := hf 3 f3 rfl
    rw [h0.1, h0.2, cOp] at g0
    rw [h1.1, h1.2, cStr] at g1
    rw [h2.1, h2.2, cInt] at g2
    rw [h3.1, h3.2, cSl] at g3
    simp only [List.drop_zero, List.drop_succ_cons, List.take_succ_cons, List.take_zero, List.getElem?_cons_zero, List.getElem?_cons_succ] at g0 g1 g2 g3
    rw [bulk_agg] at hQ ⊢
    simp only [List.map_cons, List.map_nil, uptoBulkAll] at hQ ⊢
    obtain ⟨op, e0, _, w0⟩ := DataW.trod_int uOp g0
    obtain ⟨v1, s, e1, r1, z1⟩ := (opensD_string (H := H) (P := P) (N + 1) hN uStr cStr).read enc w n _ _ _ g1 (by omega)
    obtain ⟨v2, m, e2, r2, _⟩ := (opensD_int (H := H) (P := P) (N + 1) uInt cInt).read enc w n _ _ _ g2 (by omega)
    obtain ⟨v3, l, e3, r3, z3⟩ := ihS.read enc w n _ _ _ g3 (by omega)
    obtain ⟨rfl, hs⟩ := r1
    obtain ⟨rfl, hm⟩ := r2
    have hop : 0 ≤ op ∧ op ≤ 255 := by simpa [Lit.wf, IntKind.min, IntKind.max, IntKind.signed, IntKind.bits] using w0
    have r3' : Sl NoM w v3 l := r3
    have e3' := r3'.cells
    refine ⟨.agg #[.int .u8 op, .string s, .int .i64 m, v3], .mk op s m l, ?_, ty_mk hop hs hm r3', ?_⟩
    · rw [e3'] at e3
      simp [Value.cells] at e0 e1 e2 e3 ⊢
      simp [*]
    · rw [tsz_eq]
      show 1 + s.size + (l.map tsz).sum ≤ _
      have := bulk_one x0.1
      have := bulk_one x2.1
      omega
theorem opensD_arg {α : Type} [Rep α] {sz : α → Nat} {t : TypeId} {N : Nat} (ho : OpensD H P t N sz) {enc : TypeId × Value → H} {w : World} {v : Value} {d : DataW H} {ps : List MemPlace}
    (h : DataW.Trod enc P w 0 (fun _ => true) true t v d ps) (hd : uptoBulk d ≤ N) : ∃ (u : Value) (x : α), u.cells = v.cells ∧ Rep.R NoM w u x ∧ sz x ≤ N := by
  obtain ⟨fuel, hf⟩ := h
  obtain ⟨u, x, hv, hR, hp⟩ := ho.read enc w fuel _ _ _ hf hd
  exact ⟨u, x, Array.toList_inj.1 hv, hR, by omega⟩
end
theorem agg_of {u : Value} {a : Array Value} (h : u.cells = (Value.agg a).cells) (hu : ∃ b, u = .agg b) : u = .agg a := by
  obtain ⟨b, rfl⟩ := hu
  simp [Value.cells] at h
  rw [h]
end Rw
namespace Rw
open Go Go.RowKit
open Go.Proofs.Ytohfnpmehgpphaa.Rows (uptoBulk uptoBulkAll uptoSmall)
/-- An expression's size: its nodes, their names, their annotations. -/
def tmsz (t : Tm) : Nat := ((nodesL t).map fun x => 1 + x.name.size + x.arg.size + tsz x.ann).sum
theorem tmsz_eq (t : Tm) : tmsz t = 1 + t.name.size + t.arg.size + tsz t.ann + (t.kids.map tmsz).sum := by
  unfold tmsz
  rw [nodesL_eq, List.map_cons, List.sum_cons]
  congr 1
  induction t.kids with
  | nil => rfl
  | cons k r ih => rw [List.flatMap_cons, List.map_append, List.sum_append, ih, List.map_cons, List.sum_cons]
theorem sum_in {α : Type} (f : α → Nat) : ∀ (l : List α) (x : α), x ∈ l → f x ≤ (l.map f).sum
  | y :: l, x, h => by
    rw [List.map_cons, List.sum_cons]
    rcases List.mem_cons.1 h with rfl | h
    · omega
    · have := sum_in f l x h; omega
theorem sum_len {α : Type} (f : α → Nat) (hf : ∀ x, 1 ≤ f x) : ∀ (l : List α), l.length ≤ (l.map f).sum
  | [] => Nat.le_refl _
  | y :: l => by
    have h1 := sum_len f hf l
    have h2 := hf y
    rw [List.map_cons, List.sum_cons, List.length_cons]; omega
theorem nsz_tmsz (t : Tm) : nsz t ≤ tmsz t := sum_len _ (fun x => by omega) _
theorem ann_tmsz {t x : Tm} (h : x ∈ nodesL t) : psz x.ann ≤ tmsz t := by
  have h1 := sum_in (fun x => 1 + x.name.size + x.arg.size + tsz x.ann) (nodesL t) x h
  have h2 := psz_tsz x.ann
  have h3 : ((nodesL t).map fun x => 1 + x.name.size + x.arg.size + tsz x.ann).sum = tmsz t := rfl
  omega
theorem annS_tmsz {t : Tm} (h : tmsz t ≤ 2000000) : AnnS t := fun x hx => by have := ann_tmsz hx; omega
theorem asz_tmsz (t : Tm) : asz t ≤ tmsz t := by
  unfold asz tmsz
  refine sum_le _ _ _ (fun x _ => ?_)
  have := psz_tsz x.ann
  omega
theorem tm_agg {w : World} {M : Nat → Prop} {u : Value} {t : Tm} (h : Rep.R M w u t) : ∃ a, u = .agg a := by
  obtain ⟨akv, kv, e, _⟩ := tm_open h
  exact ⟨_, e⟩
section
variable {H : Type} {P : Program}
theorem opensD_bool {t : TypeId} (N : Nat) (ht : P.underlying t = some .bool) (hc : P.cellsOf t = 1) : OpensD H (α := Bool) P t N (fun _ => 1) := by
  refine ⟨hc, fun enc w fuel cs d ps h _ => ?_⟩
  obtain ⟨b, rfl, e⟩ := DataW.trod_bool ht h
  cases e
  exact ⟨.bool b, b, rfl, rfl, bulk_one _⟩
theorem opensD_tm {t tOp tStr tInt tBool tTy tSl : TypeId} {f0 f1 f2 f3 f4 f5 f6 : Field} (ht : P.underlying t = some (.struct #[f0, f1, f2, f3, f4, f5, f6])) (h0 : f0.offset = 0 ∧ f0.type = tOp) (h1 : f1.offset = 1 ∧ f1.type = tStr) (h2 : f2.offset = 2 ∧ f2.type = tStr)
    (h3 : f3.offset = 3 ∧ f3.type = tInt) (h4 : f4.offset = 4 ∧ f4.type = tBool) (h5 : f5.offset = 5 ∧ f5.type = tTy) (h6 : f6.offset = 9 ∧ f6.type = tSl)
    (uOp : P.underlying tOp = some (.int .u8)) (cOp : P.cellsOf tOp = 1) (uStr : P.underlying tStr = some .string) (cStr : P.cellsOf tStr = 1) (uInt : P.underlying tInt = some (.int .i64)) (cInt : P.cellsOf tInt = 1) (uBool : P.underlying tBool = some .bool) (cBool : P.cellsOf tBool = 1)
    (uSl : P.underlying tSl = some (.slice t)) (cSl : P.cellsOf tSl = 1) (oT : ∀ N, N < 140737488355328 → OpensD H (α := Ty) P tTy N tsz) (cT : P.cellsOf t = 10) :
    ∀ N, N < 140737488355328 → OpensD H (α := Tm) P t N tmsz := by
  intro N
  induction N with
  | zero => exact fun _ => ⟨cT, fun enc w fuel cs d ps h hQ => by have := bulk_one d; omega⟩
  | succ N ih =>
    intro hN
    have ihS := opensD_slice (H := H) (P := P) (N + 1) hN uSl cSl (ih (by omega))
    refine ⟨cT, fun enc w fuel cs d ps h hQ => ?_⟩
    obtain ⟨xs, n, _, hx, hl, hxl, hf⟩ := DataW.trod_struct ht h
    cases hx
    rw [cT] at hl
    obtain ⟨c0, c1, c2, c3, c4, c5, c6, c7, c8, c9, rfl⟩ : ∃ c0 c1 c2 c3 c4 c5 c6 c7 c8 c9, cs = [c0, c1, c2, c3, c4, c5, c6, c7, c8, c9] := by
      rcases cs with _ | ⟨c0, _ | ⟨c1, _ | ⟨c2, _ | ⟨c3, _ | ⟨c4, _ | ⟨c5, _ | ⟨c6, _ | ⟨c7, _ | ⟨c8, _ | ⟨c9, _ | ⟨c10, r⟩⟩⟩⟩⟩⟩⟩⟩⟩⟩⟩ <;> simp at hl
      exact ⟨c0, c1, c2, c3, c4, c5, c6, c7, c8, c9, rfl⟩
    obtain ⟨x0, x1, x2, x3, x4, x5, x6, rfl⟩ : ∃ x0 x1 x2 x3 x4 x5 x6, xs = [x0, x1, x2, x3, x4, x5, x6] := by
      rcases xs with _ | ⟨c0, _ | ⟨c1, _ | ⟨c2, _ | ⟨c3, _ | ⟨c4, _ | ⟨c5, _ | ⟨c6, _ | ⟨c7, r⟩⟩⟩⟩⟩⟩⟩⟩ <;> simp at hxl
      exact ⟨c0, c1, c2, c3, c4, c5, c6, rfl⟩
    have g0 := hf 0 f0 rfl
    have g1 := hf 1 f1 rfl
    have g2 := hf 2 f2 rfl
    have g3 := hf 3 f3 rfl
    have g4 := hf 4 f4 rfl
    have g5 := hf 5 f5 rfl
    have g6 := hf 6 f6 rfl
    rw [h0.1, h0.2, cOp] at g0
    rw [h1.1, h1.2, cStr] at g1
    rw [h2.1, h2.2, cStr] at g2
    rw [h3.1, h3.2, cInt] at g3
    rw [h4.1, h4.2, cBool] at g4
    rw [h5.1, h5.2, (oT (N + 1) hN).cells, show Rep.sz Ty = 4 from rfl] at g5
    rw [h6.1, h6.2, cSl] at g6
    simp only [List.drop_zero, List.drop_succ_cons, List.take_succ_cons, List.take_zero, List.getElem?_cons_zero, List.getElem?_cons_succ] at g0 g1 g2 g3 g4 g5 g6
    rw [bulk_agg] at hQ ⊢
    simp only [List.map_cons, List.map_nil, uptoBulkAll] at hQ ⊢
    obtain ⟨op, e0, _, w0⟩ := DataW.trod_int uOp g0
    obtain ⟨v1, s, e1, r1, z1⟩ := (opensD_string (H := H) (P := P) (N + 1) hN uStr cStr).read enc w n _ _ _ g1 (by omega)
    obtain ⟨v2, ar, e2, r2, z2⟩ := (opensD_string (H := H) (P := P) (N + 1) hN uStr cStr).read enc w n _ _ _ g2 (by omega)
    obtain ⟨v3, m, e3, r3, _⟩ := (opensD_int (H := H) (P := P) (N + 1) uInt cInt).read enc w n _ _ _ g3 (by omega)
    obtain ⟨v4, b, e4, r4, _⟩ := (opensD_bool (H := H) (P := P) (N + 1) uBool cBool).read enc w n _ _ _ g4 (by omega)
    obtain ⟨v5, a, e5, r5, z5⟩ := (oT (N + 1) hN).read enc w n _ _ _ g5 (by omega)
    obtain ⟨v6, l, e6, r6, z6⟩ := ihS.read enc w n _ _ _ g6 (by omega)
    obtain ⟨rfl, hs⟩ := r1
    obtain ⟨rfl, har⟩ := r2
    obtain ⟨rfl, hm⟩ := r3
    obtain rfl : v4 = .bool b := r4
    obtain ⟨akv, rfl, _⟩ := ty_open r5
    have hop : 0 ≤ op ∧ op ≤ 255 := by simpa [Lit.wf, IntKind.min, IntKind.max, IntKind.signed, IntKind.bits] using w0
    have r6' : Sl NoM w v6 l := r6
    have e6' := r6'.cells
    refine ⟨.agg #[.int .u8 op, .string s, .string ar, .int .i64 m, .bool b, .int .u8 a.op, .string a.name, .int .i64 a.n, akv, v6], .mk op s ar m b a l, ?_, tm_mk hop hs har hm r5 r6', ?_⟩
    · rw [e6'] at e6
      simp [Value.cells] at e0 e1 e2 e3 e4 e5 e6 ⊢
      simp [*]
    · rw [tmsz_eq]
      show 1 + s.size + ar.size + tsz a + (l.map tmsz).sum ≤ _
      have := bulk_one x0.1
      have := bulk_one x3.1
      omega
end
end Rw
namespace Go.Proofs.Ytohfnpmehgpphaa
open Go Rw Go.RowKit
set_option maxRecDepth 100000
theorem copyM_own : ∀ (t : Tm) (M : Nat → Prop) (w : World) (v : Value), Rep.R M w v t → Low M w → AnnS t → nsz t ≤ 2000000 → Calls Try.prog 49 #[v] w (Ret fun r w' => OTm 40 84 w.heap.size w' t r (Plus NoM w w') ∧ Ext w w') := by
  refine Tm.ind fun t ih => ?_
  intro M w v ht hlow0 hz hsz
  have hlow := hlow0
  have hB : w.heap.size ≤ w.heap.size := Nat.le_refl _
  have hE : Below w.heap.size w w := Below.refl _ _
  have hsub : ∀ b, M b → M b := fun _ h => h
  obtain ⟨akv, kv, rfl, op, nm, ag, n64, ha, hk⟩ := tm_open ht
  have hps := nsz_eq t
  have hkl := len_nsz t.kids
  have hzs := hz.self
  refine c_enter (n := 26) Try.func49 rfl rfl rfl ?_
  refine q0 ?_
  refine lC (o_box rfl rfl rfl ?_)
  intro b1 w1 qb1 ew1 hb1
  have sw1 := Stp.add ew1 hlow hB (Nat.le_of_eq qb1.symm) hb1.lt
  have h1 : MB w.heap.size (Rw.Add M b1) w1 b1 84 [.int .u8 t.op, .string t.name, .string t.arg, .int .i64 t.n, .bool t.has, .int .u8 t.ann.op, .string t.ann.name, .int .i64 t.ann.n, akv, kv] := MB.mk' hb1 qb1 hB
  replace hE := hE.trans sw1.below
  replace ht := Rep.stp ht sw1
  replace ha := Rep.stp ha sw1
  replace hk := hk.stp sw1
  replace hsub := sw1.sb hsub
  replace hlow := sw1.low
  replace hB := sw1.z hB
  refine lC (o_new tK rfl rfl rfl ?_)
  intro b2 w2 qb2 ew2 hb2
  have ne_h1_h2 : b1 ≠ b2 := by have := h1.lt; omega
  have sw2 := Stp.add ew2 hlow hB (Nat.le_of_eq qb2.symm) hb2.lt
  have h2 : MB w.heap.size (Rw.Add (Rw.Add M b1) b2) w2 b2 84 [.int .u8 0, .string ⟨#[]⟩, .string ⟨#[]⟩, .int .i64 0, .bool false, .int .u8 0, .string ⟨#[]⟩, .int .i64 0, .slice none 0 0, .slice none 0 0] := MB.mk' hb2 qb2 hB
  replace h1 := h1.stp sw2 (ew2.block b1 h1.lt)
  replace hE := hE.trans sw2.below
  replace ht := Rep.stp ht sw2
  replace ha := Rep.stp ha sw2
  replace hk := hk.stp sw2
  replace hsub := sw2.sb hsub
  replace hlow := sw2.low
  replace hB := sw2.z hB
  refine q1 (q0 (l_p 1 tK rfl (q1 (c_seq (q0 (l_p 1 tK rfl ?_))))))
  refine lC (o_ld tK (h1.cell 9 _ rfl) rfl rfl rfl rfl rfl ?_)
  refine lC (o_len tK hk rfl rfl rfl rfl rfl ?_)
  refine l_p 1 tK rfl (q1 (c_blk ?_))
  have d_ho_h1 : ∀ x, (.slice none 0 0 : Value).ownBlock = some x → x ≠ b1 := fun x hx => by simp [Value.ownBlock] at hx
  have d_ho_h2 : ∀ x, (.slice none 0 0 : Value).ownBlock = some x → x ≠ b2 := fun x hx => by simp [Value.ownBlock] at hx
  have d_hO_h1 : ∀ x, NoM x → x ≠ b1 := fun _ h => h.elim
  have d_hO_h2 : ∀ x, NoM x → x ≠ b2 := fun _ h => h.elim
  have dd_ho_hO : ∀ x y, (.slice none 0 0 : Value).ownBlock = some x → NoM y → x ≠ y := fun _ _ _ h => h.elim
  refine c_loop5 (X := Nat) (Y := Value) (Z := Nat → Prop) (U := List (VN 9)) (V := Nat → Prop) (fun i v M1 us F => [(1, .pointer (some ⟨b1, 0, none⟩)), (2, .pointer (some ⟨b2, 0, none⟩)), (3, v), (7, kv), (8, .int .i64 (t.kids.length : Int)), (9, .int .i64 (i : Nat))]) (fun i v M1 us F w' => i ≤ t.kids.length ∧ OwnSl 84 w.heap.size M1 w' v us ∧ OMs 40 84 w.heap.size w' us (t.kids.take i) F ∧ MB w.heap.size M1 w' b1 84 [.int .u8 t.op, .string t.name, .string t.arg, .int .i64 t.n, .bool t.has, .int .u8 t.ann.op, .string t.ann.name, .int .i64 t.ann.n, akv, kv] ∧ MB w.heap.size M1 w' b2 84 [.int .u8 0, .string ⟨#[]⟩, .string ⟨#[]⟩, .int .i64 0, .bool false, .int .u8 0, .string ⟨#[]⟩, .int .i64 0, .slice none 0 0, .slice none 0 0] ∧ (∀ x, (v : Value).ownBlock = some x → x ≠ b1) ∧ (∀ x, (v : Value).ownBlock = some x → x ≠ b2) ∧ (∀ x, F x → x ≠ b1) ∧ (∀ x, F x → x ≠ b2) ∧ (∀ x y, (v : Value).ownBlock = some x → F y → x ≠ y) ∧ Rep.R M1 w' (.agg #[.int .u8 t.ann.op, .string t.ann.name, .int .i64 t.ann.n, akv]) t.ann ∧ Sl M1 w' kv t.kids ∧ Low M1 w' ∧ (∀ b, M b → M1 b) ∧ Below w.heap.size w w' ∧ w.heap.size ≤ w'.heap.size) (fun i v M1 us F => t.kids.length - i) (0) (.slice none 0 0) ((Rw.Add (Rw.Add M b1) b2)) ([]) (NoM) (s6 rfl rfl rfl rfl rfl rfl) ?_ ?_
  · exact ⟨Nat.zero_le _, own_nil, oms_nil (fun _ h => h.elim), h1, h2, d_ho_h1, d_ho_h2, d_hO_h1, d_hO_h2, dd_ho_hO, ha, hk, hlow, hsub, hE, hB⟩
  clear ht ha hk h1 h2 hlow hsub hE hB d_ho_h1 d_ho_h2 d_hO_h1 d_hO_h2 dd_ho_hO
  rintro i v M1 us F w3 ⟨hi, ho, hO, h1, h2, d_ho_h1, d_ho_h2, d_hO_h1, d_hO_h2, dd_ho_hO, ha, hk, hlow, hsub, hE, hB⟩
  have hul := hO.len
  rw [List.length_take] at hul
  refine q0 (l_p 1 tK rfl (q1 (c_seq ?_)))
  refine c_ifP _ rfl (fun c1 => ?_) (fun c1 => ?_)
  · refine c_skip (x_seq (c_seq (c_blk (q0 ?_))))
    have hik : i < t.kids.length := by omega
    have hp1 := nsz_get hik
    refine lC (o_ixS tK hk (List.getElem?_eq_getElem hik) rfl rfl rfl rfl rfl rfl rfl rfl rfl ?_)
    intro ebx eox eux hyx hatx
    obtain ⟨akvx, kvx, rfl, opx, nmx, agx, n64x, hax, hkx⟩ := tm_open hyx
    replace hatx : At M1 w3 ebx eox [.int .u8 t.kids[i].op, .string t.kids[i].name, .string t.kids[i].arg, .int .i64 t.kids[i].n, .bool t.kids[i].has, .int .u8 t.kids[i].ann.op, .string t.kids[i].ann.name, .int .i64 t.kids[i].ann.n, akvx, kvx] := hatx
    refine lC (o_lds tK (fun j v hv => hatx.cell j v hv) rfl rfl rfl rfl rfl rfl ?_)
    refine lC (o_new tK rfl rfl rfl ?_)
    intro b5 w4 qb5 ew4 hb5
    have nb5 := nM_of hlow qb5
    refine lC (o_st tK hb5 rfl rfl rfl rfl (Rep.one hyx) rfl rfl ?_)
    intro w5 h5 uw5 bew5
    have ew5 : Ext w3 w5 := ew4.trans (bew5 _ (Nat.le_of_eq qb5.symm))
    replace ho := ho.ext hlow hB ew5
    replace hO := hO.ext hlow hB ew5
    replace h1 := h1.ext hlow hB ew5
    replace h2 := h2.ext hlow hB ew5
    replace hE := ew5.bl hE hB
    replace ha := Rep.ext ha ew5
    replace hk := hk.ext ew5
    replace hyx := Rep.ext hyx ew5
    replace hax := Rep.ext hax ew5
    replace hkx := hkx.ext ew5
    replace hatx := hatx.ext ew5
    replace hlow := hlow.ext ew5
    replace hB := ew5.z hB
    replace h5 : Box w5 b5 84 [.int .u8 t.kids[i].op, .string t.kids[i].name, .string t.kids[i].arg, .int .i64 t.kids[i].n, .bool t.kids[i].has, .int .u8 t.kids[i].ann.op, .string t.kids[i].ann.name, .int .i64 t.kids[i].ann.n, akvx, kvx] := h5
    replace h5 := h5.at nb5
    refine q1 (c_reg (l_p 1 tK rfl ?_))
    refine lC (o_lds tK (fun j v hv => h5.cell j v hv) rfl rfl rfl rfl rfl rfl ?_)
    have l_h1 := h1.lt
    have l_h2 := h2.lt
    have l_ho := ho.lt
    have l_hO := hO.lt
    have hB0 := hB
    refine lC (o_call fo49 rfl rfl rfl (ih _ (List.getElem_mem hik) _ _ _ hyx hlow (hz.kid (List.getElem_mem hik)) (by omega)) ?_)
    rintro vr w6 ⟨hr, ew6⟩
    replace hr := hr.ge hB0
    have hGl : ∀ c, Plus NoM w5 w6 c → w5.heap.size ≤ c := fun c h => h.elim (fun h => h.elim) (fun h => h.1)
    replace ho := ho.ext hlow hB ew6
    replace hO := hO.ext hlow hB ew6
    replace h1 := h1.ext hlow hB ew6
    replace h2 := h2.ext hlow hB ew6
    replace hE := ew6.bl hE hB
    replace ha := Rep.ext ha ew6
    replace hk := hk.ext ew6
    replace hyx := Rep.ext hyx ew6
    replace hax := Rep.ext hax ew6
    replace hkx := hkx.ext ew6
    replace hatx := hatx.ext ew6
    replace h5 := h5.ext ew6
    replace hlow := hlow.ext ew6
    replace hB := ew6.z hB
    generalize Plus NoM w5 w6 = G at hr hGl
    have d_hr_h1 : ∀ x, G x → x ≠ b1 := fun x hx => by have := hGl x hx; omega
    have d_hr_h2 : ∀ x, G x → x ≠ b2 := fun x hx => by have := hGl x hx; omega
    have dd_ho_hr : ∀ x y, (v : Value).ownBlock = some x → G y → x ≠ y := fun x y hx hy => by have := hGl y hy; have := (l_ho x hx).2; omega
    have dd_hr_hO : ∀ c, G c → ¬ F c := fun c hg hf => by have := hGl c hg; have := (l_hO c hf).2; omega
    refine lC (o_bs tK rfl rfl rfl rfl rfl rfl rfl (sz1 hr.size) rfl rfl rfl ?_)
    intro bw7 w7 qbw7 ew7 hbw7
    have nbw7 := nM_of hlow qbw7
    replace ho := ho.ext hlow hB ew7
    replace hO := hO.ext hlow hB ew7
    replace h1 := h1.ext hlow hB ew7
    replace h2 := h2.ext hlow hB ew7
    replace hr := hr.ext hlow hB ew7
    replace hE := ew7.bl hE hB
    replace ha := Rep.ext ha ew7
    replace hk := hk.ext ew7
    replace hyx := Rep.ext hyx ew7
    replace hax := Rep.ext hax ew7
    replace hkx := hkx.ext ew7
    replace hatx := hatx.ext ew7
    replace h5 := h5.ext ew7
    replace hlow := hlow.ext ew7
    replace hB := ew7.z hB
    refine lC (o_app1 tK ho hbw7 nbw7 hr.vn hlow hB rfl rfl rfl rfl rfl rfl rfl (by omega) (by show (_ + _) * 136 ≤ _; omega) rfl rfl ?_)
    intro vw8 w8 Mw8 hw8 sw8 frw8 blw8
    have zd_ho_h1 := d_ho_h1
    replace d_ho_h1 : ∀ x, (vw8 : Value).ownBlock = some x → x ≠ b1 := fun x hx => (blw8 x hx).elim (d_ho_h1 x) (fun h e => by have := h1.lt; omega)
    have zd_ho_h2 := d_ho_h2
    replace d_ho_h2 : ∀ x, (vw8 : Value).ownBlock = some x → x ≠ b2 := fun x hx => (blw8 x hx).elim (d_ho_h2 x) (fun h e => by have := h2.lt; omega)
    have zdd_ho_hO := dd_ho_hO
    replace dd_ho_hO : ∀ x y, (vw8 : Value).ownBlock = some x → F y → x ≠ y := fun x y hx hy => (blw8 x hx).elim (fun h => dd_ho_hO x y h hy) (fun h e => by have := (hO.lt y hy).2; omega)
    have zdd_ho_hr := dd_ho_hr
    replace dd_ho_hr : ∀ x y, (vw8 : Value).ownBlock = some x → G y → x ≠ y := fun x y hx hy => (blw8 x hx).elim (fun h => dd_ho_hr x y h hy) (fun h e => by have := (hr.lt y hy).2; omega)
    replace hO := hO.stp sw8 (fun x hx => frw8 x (hO.lt x hx).2 (fun e => zdd_ho_hO x x e.symm hx rfl))
    replace h1 := h1.stp sw8 (frw8 b1 h1.lt (fun e => zd_ho_h1 _ e.symm rfl))
    replace h2 := h2.stp sw8 (frw8 b2 h2.lt (fun e => zd_ho_h2 _ e.symm rfl))
    replace hr := hr.stp sw8 (fun x hx => frw8 x (hr.lt x hx).2 (fun e => zdd_ho_hr x x e.symm hx rfl))
    replace hE := hE.trans sw8.below
    replace ha := Rep.stp ha sw8
    replace hk := hk.stp sw8
    replace hyx := Rep.stp hyx sw8
    replace hax := Rep.stp hax sw8
    replace hkx := hkx.stp sw8
    replace hatx := hatx.stp sw8
    replace h5 := h5.stp sw8
    replace hsub := sw8.sb hsub
    replace hlow := sw8.low
    replace hB := sw8.z hB
    replace ho := hw8
    clear hw8
    refine l_p 1 tK rfl (q2 (x_seq (c_reg ?_)))
    refine lC (o_ai rfl rfl rfl (by omega) rfl rfl ?_)
    refine l_p 1 tK rfl (l_nil ?_)
    have hO2 := hO.app hr dd_hr_hO
    exact x_round5 (i + 1) (vw8) (Mw8) (us ++ [⟨vr⟩]) (fun c => F c ∨ G c) (s6 rfl rfl rfl rfl rfl rfl) ⟨by omega, ho, by rw [List.take_succ_eq_append_getElem hik]; exact hO2, h1, h2, d_ho_h1, d_ho_h2, (fun x hx => hx.elim (d_hO_h1 x) (d_hr_h1 x)), (fun x hx => hx.elim (d_hO_h2 x) (d_hr_h2 x)), (fun x y hx hy => hy.elim (dd_ho_hO x y hx) (dd_ho_hr x y hx)), ha, hk, hlow, hsub, hE, hB⟩ (by omega)
  refine c_exit (x_seqE (x_seqE (x_blkE (x_seq (q0 (l_p 2 tK rfl ?_))))))
  refine lC (o_lds tK (fun j v hv => (h1.box).mid 5 (sub := [.int .u8 t.ann.op, .string t.ann.name, .int .i64 t.ann.n, akv]) rfl j v hv) rfl rfl rfl rfl rfl rfl ?_)
  obtain rfl : i = t.kids.length := by omega
  rw [List.take_of_length_le (Nat.le_refl _)] at hO
  have l_h1 := h1.lt
  have l_h2 := h2.lt
  have l_ho := ho.lt
  have l_hO := hO.lt
  have hB0 := hB
  refine lC (o_call fo89 rfl rfl rfl (typed_own t.ann _ _ _ ha hlow hzs) ?_)
  rintro vc w9 ⟨hc, ew9⟩
  replace hc := hc.ge hB0
  have hGl : ∀ c, Plus NoM w3 w9 c → w3.heap.size ≤ c := fun c h => h.elim (fun h => h.elim) (fun h => h.1)
  replace ho := ho.ext hlow hB ew9
  replace hO := hO.ext hlow hB ew9
  replace h1 := h1.ext hlow hB ew9
  replace h2 := h2.ext hlow hB ew9
  replace hE := ew9.bl hE hB
  replace ha := Rep.ext ha ew9
  replace hk := hk.ext ew9
  replace hlow := hlow.ext ew9
  replace hB := ew9.z hB
  generalize Plus NoM w3 w9 = GA at hc hGl
  have d_hc_h1 : ∀ x, GA x → x ≠ b1 := fun x hx => by have := hGl x hx; omega
  have d_hc_h2 : ∀ x, GA x → x ≠ b2 := fun x hx => by have := hGl x hx; omega
  have dd_ho_hc : ∀ x y, (v : Value).ownBlock = some x → GA y → x ≠ y := fun x y hx hy => by have := hGl y hy; have := (l_ho x hx).2; omega
  have dd_hc_hO : ∀ c, GA c → ¬ F c := fun c hg hf => by have := hGl c hg; have := (l_hO c hf).2; omega
  obtain ⟨kvc, usc, Hc, rfl, _, _, _, _, _, _, _⟩ := oty_open hc
  refine l_p 1 tK rfl ?_
  obtain ⟨av, cv, rfl, hcv⟩ := ho.val
  refine lC (o_st tK h1.box rfl rfl rfl rfl (by simp [Value.cells, Value.oneCell']) rfl rfl ?_)
  intro w10 hw10 qw10 bew10
  have uw10 : UpdB _ _ _ := ⟨qw10, bew10⟩
  have sw10 := uw10.stp h1.inM hlow h1.ge
  have frw10 := qw10.2
  replace ho := ho.stp sw10 (fun x hx => frw10 x (ho.lt x hx).2 (d_ho_h1 x hx))
  replace hO := hO.stp sw10 (fun x hx => frw10 x (hO.lt x hx).2 (d_hO_h1 x hx))
  replace h2 := h2.stp sw10 (frw10 b2 h2.lt ne_h1_h2.symm)
  replace hc := hc.stp sw10 (fun x hx => frw10 x (hc.lt x hx).2 (d_hc_h1 x hx))
  replace hE := hE.trans sw10.below
  replace ha := Rep.stp ha sw10
  replace hk := hk.stp sw10
  replace hsub := sw10.sb hsub
  replace hlow := sw10.low
  replace hB := sw10.z hB
  replace h1 : MB w.heap.size _ w10 b1 _ [.int .u8 t.op, .string t.name, .string t.arg, .int .i64 t.n, .bool t.has, .int .u8 t.ann.op, .string t.ann.name, .int .i64 t.ann.n, akv, (.slice av us.length cv)] := ⟨hw10, h1.inM, h1.ge⟩
  refine l_p 1 tK rfl ?_
  refine lC (o_st tK h1.box rfl rfl rfl rfl hc.one rfl rfl ?_)
  intro w11 hw11 qw11 bew11
  have uw11 : UpdB _ _ _ := ⟨qw11, bew11⟩
  have sw11 := uw11.stp h1.inM hlow h1.ge
  have frw11 := qw11.2
  replace ho := ho.stp sw11 (fun x hx => frw11 x (ho.lt x hx).2 (d_ho_h1 x hx))
  replace hO := hO.stp sw11 (fun x hx => frw11 x (hO.lt x hx).2 (d_hO_h1 x hx))
  replace h2 := h2.stp sw11 (frw11 b2 h2.lt ne_h1_h2.symm)
  replace hc := hc.stp sw11 (fun x hx => frw11 x (hc.lt x hx).2 (d_hc_h1 x hx))
  replace hE := hE.trans sw11.below
  replace ha := Rep.stp ha sw11
  replace hk := hk.stp sw11
  replace hsub := sw11.sb hsub
  replace hlow := sw11.low
  replace hB := sw11.z hB
  replace h1 : MB w.heap.size _ w11 b1 _ [.int .u8 t.op, .string t.name, .string t.arg, .int .i64 t.n, .bool t.has, .int .u8 t.ann.op, .string t.ann.name, .int .i64 t.ann.n, kvc, (.slice av us.length cv)] := ⟨hw11, h1.inM, h1.ge⟩
  refine q1 (q0 ?_)
  refine lC (o_lds tK (fun j v hv => h1.cell j v hv) rfl rfl rfl rfl rfl rfl ?_)
  refine lC (o_st tK h2.box rfl rfl rfl rfl (by intro u hu; simp [Value.cells] at hu; have := hc.one; simp [Value.cells] at this; rcases hu with rfl | rfl | rfl | rfl | rfl | rfl | rfl | rfl | rfl | rfl <;> first | rfl | exact this.2.2.2) rfl rfl ?_)
  intro w12 hw12 qw12 bew12
  have uw12 : UpdB _ _ _ := ⟨qw12, bew12⟩
  have sw12 := uw12.stp h2.inM hlow h2.ge
  have frw12 := qw12.2
  replace ho := ho.stp sw12 (fun x hx => frw12 x (ho.lt x hx).2 (d_ho_h2 x hx))
  replace hO := hO.stp sw12 (fun x hx => frw12 x (hO.lt x hx).2 (d_hO_h2 x hx))
  replace h1 := h1.stp sw12 (frw12 b1 h1.lt ne_h1_h2)
  replace hc := hc.stp sw12 (fun x hx => frw12 x (hc.lt x hx).2 (d_hc_h2 x hx))
  replace hE := hE.trans sw12.below
  replace ha := Rep.stp ha sw12
  replace hk := hk.stp sw12
  replace hsub := sw12.sb hsub
  replace hlow := sw12.low
  replace hB := sw12.z hB
  replace h2 : MB w.heap.size _ w12 b2 _ [.int .u8 t.op, .string t.name, .string t.arg, .int .i64 t.n, .bool t.has, .int .u8 t.ann.op, .string t.ann.name, .int .i64 t.ann.n, kvc, (.slice av us.length cv)] := ⟨hw12, h2.inM, h2.ge⟩
  refine q1 (c_ret ?_)
  refine x_ret1s tK (fun j v hv => h2.cell j v hv) rfl rfl rfl rfl rfl ?_
  have hfin := otm_fin (has := t.has) op nm ag n64 (by omega) hc ho hO dd_ho_hO dd_ho_hc dd_hc_hO
  rw [← tm_eta] at hfin
  exact ⟨hfin, hE⟩
theorem spoil_spec : ∀ (t : Tm) (M : Nat → Prop) (w : World) (B : Nat) (v : Value) (F : Nat → Prop), OTm 40 84 B w t v F → (∀ c, F c → M c) → Low M w → B ≤ w.heap.size → Calls Try.prog 50 #[v] w (Ret fun r w' => r = .tuple #[] ∧ Stp B M M w w' ∧ Kept w w' (Out F w)) := by
  refine Tm.ind fun t ih => ?_
  intro M w B v F ht hF hlow hB
  have hT : Stp B M M w w := Stp.refl hlow
  have hfr : Kept w w (Out F w) := Kept.refl (fun x hx => hx.1)
  obtain ⟨akv, kv, us, H, FA, rfl, hoa, hkl, hr, hO, hH, hA⟩ := otm_open ht
  obtain ⟨akv2, usa, Ha, ea, _, _, _, hkla, hra, hOa, _⟩ := oty_open hoa
  have hla := hOa.len
  obtain rfl : akv = akv2 := by simpa using ea
  have hkA := hra.inM
  have hkF := hr.inM
  replace hra := hra.keepV (M' := M) (fun b hb => hF b (hA b (hra.inM b hb)).1) (fun _ _ _ _ _ => rfl)
  replace hr := hr.keepV (M' := M) (fun b hb => hF b (hr.inM b hb)) (fun _ _ _ _ _ => rfl)
  have dd_hr_hO : ∀ x y, kv.ownBlock = some x → H y → x ≠ y := fun x y hx hy e => (hH y hy).2 (e ▸ hx)
  have dd_hr_hfr : ∀ x y, kv.ownBlock = some x → Out F w y → x ≠ y := fun x y hx hy e => hy.2 (e ▸ hkF x hx)
  have dd_hra_hr : ∀ x y, akv.ownBlock = some x → kv.ownBlock = some y → x ≠ y := fun x y hx hy e => (hA x (hkA x hx)).2.1 (e ▸ hy)
  have dd_hra_hO : ∀ x y, akv.ownBlock = some x → H y → x ≠ y := fun x y hx hy e => (hA x (hkA x hx)).2.2 (e ▸ hy)
  have dd_hra_hfr : ∀ x y, akv.ownBlock = some x → Out F w y → x ≠ y := fun x y hx hy e => hy.2 (e ▸ (hA x (hkA x hx)).1)
  have hul := hO.len
  refine c_enter (n := 36) Try.func50 rfl rfl rfl ?_
  refine q0 ?_
  refine lC (o_box rfl rfl rfl ?_)
  intro b1 w1 hb_b1 ew1 h1
  replace h1 : Box _ b1 84 [.int .u8 t.op, .string t.name, .string t.arg, .int .i64 t.n, .bool t.has, .int .u8 t.ann.op, .string t.ann.name, .int .i64 t.ann.n, akv, kv] := h1
  replace h1 := h1.at (nM_of hlow hb_b1)
  replace hT := hT.then (Stp.ext ew1 hlow hB)
  replace hra := hra.ext hlow hB ew1
  replace hr := hr.ext hlow hB ew1
  replace hO := hO.ext hlow hB ew1
  replace hfr := hfr.ext hlow hB ew1
  replace hlow := hlow.ext ew1
  replace hB := ew1.z hB
  refine q1 (c_seq (q0 (l_p 1 tK rfl (q1 (c_blk ?_)))))
  clear hoa
  refine c_loop2 (X := Nat) (Y := List (VN 3)) (fun i ua => [(1, .pointer (some ⟨b1, 0, none⟩)), (2, .int .i64 (i : Nat))]) (fun i ua w' => i ≤ ua.length ∧ ua.length = t.ann.kids.length ∧ OwnSl 40 B M w' akv ua ∧ At M w' b1 0 [.int .u8 t.op, .string t.name, .string t.arg, .int .i64 t.n, .bool t.has, .int .u8 t.ann.op, .string t.ann.name, .int .i64 t.ann.n, akv, kv] ∧ OwnSl 84 B M w' kv us ∧ OMs 40 84 B w' us (t.kids) H ∧ Kept w w' (Out F w) ∧ Stp B M M w w' ∧ Low M w' ∧ B ≤ w'.heap.size) (fun i ua => ua.length - i) (0) (usa) (s2 rfl rfl) ?_ ?_
  · exact ⟨Nat.zero_le _, hla, hra, h1, hr, hO, hfr, hT, hlow, hB⟩
  clear hra h1 hr hO hfr hT hlow hB
  rintro i ua w2 ⟨hi, hua, hra, h1, hr, hO, hfr, hT, hlow, hB⟩
  refine c_seq (q0 (l_p 3 tK rfl ?_))
  refine lC (o_ld tK (h1.cell 8 _ rfl) rfl rfl rfl rfl rfl ?_)
  refine lC (o_lenO tK hra rfl rfl rfl rfl rfl ?_)
  refine l_p 1 tK rfl (q1 ?_)
  refine c_ifP _ rfl (fun c1 => ?_) (fun c1 => ?_)
  · refine c_skip (x_seq (c_seq (c_blk (c_reg (l_p 2 tK rfl ?_)))))
    refine lC (o_ld tK (h1.cell 8 _ rfl) rfl rfl rfl rfl rfl ?_)
    refine l_p 1 tK rfl ?_
    refine lC (o_build (cells := [.int .u8 3, .string ⟨#[]⟩, .int .i64 0, .slice none 0 0]) (css := [[.int .u8 3]]) bd40 rfl rfl rfl rfl rfl ?_)
    have hia : i < ua.length := by omega
    refine lC (o_ixO tK hra (List.getElem?_eq_getElem hia) rfl rfl rfl rfl rfl rfl rfl rfl rfl ?_)
    intro eba eua hoba hRa hata
    refine lC (o_stO tK hra hoba (by omega) (show Rep.R _ _ _ (⟨.agg #[.int .u8 3, .string ⟨#[]⟩, .int .i64 0, .slice none 0 0]⟩ : VN 3) from ⟨rfl, rfl, (by intro u hu; simp [Value.cells] at hu; rcases hu with rfl | rfl | rfl | rfl <;> rfl)⟩) hlow rfl rfl rfl rfl rfl rfl ?_)
    intro w3 hw3 sw3 frw3
    replace hT := hT.then sw3
    replace hr := hr.stp sw3 (fun x hx => frw3 x (hr.lt x hx).2 (fun e => dd_hra_hr _ x hoba hx e.symm))
    replace hO := hO.stp sw3 (fun x hx => frw3 x (hO.lt x hx).2 (fun e => dd_hra_hO _ x hoba hx e.symm))
    replace hfr := hfr.stp sw3 (fun x hx => frw3 x (hfr.lt x hx).2 (fun e => dd_hra_hfr _ x hoba hx e.symm))
    replace h1 := h1.stp sw3
    replace hlow := sw3.low
    replace hB := sw3.z hB
    replace hra := hw3
    clear hw3
    refine q2 (x_seq (c_reg (l_p 1 tK rfl ?_)))
    refine lC (o_ai rfl rfl rfl (by omega) rfl rfl ?_)
    refine l_p 1 tK rfl (l_nil ?_)
    exact x_round2 (i + 1) (ua.set i ⟨.agg #[.int .u8 3, .string ⟨#[]⟩, .int .i64 0, .slice none 0 0]⟩) (s2 rfl (get_num rfl (by omega))) ⟨by rw [List.length_set]; omega, by rw [List.length_set]; exact hua, hra, h1, hr, hO, hfr, hT, hlow, hB⟩ (by rw [List.length_set]; omega)
  refine c_exit (x_seqE (x_seqE (x_blkE (x_seq (q0 (l_p 1 tK rfl (q1 (c_blk ?_))))))))
  refine c_loop2 (X := Nat) (Y := List (VN 9)) (fun j us => [(1, .pointer (some ⟨b1, 0, none⟩)), (3, .int .i64 (j : Nat))]) (fun j us w' => j ≤ t.kids.length ∧ At M w' b1 0 [.int .u8 t.op, .string t.name, .string t.arg, .int .i64 t.n, .bool t.has, .int .u8 t.ann.op, .string t.ann.name, .int .i64 t.ann.n, akv, kv] ∧ OwnSl 84 B M w' kv us ∧ OMs 40 84 B w' us (mapTo (fun _ => tz5) t.kids j) H ∧ Kept w w' (Out F w) ∧ Stp B M M w w' ∧ Low M w' ∧ B ≤ w'.heap.size) (fun j us => t.kids.length - j) (0) (us) (s2 rfl rfl) ?_ ?_
  · exact ⟨Nat.zero_le _, h1, hr, by rw [mapTo_zero]; exact hO, hfr, hT, hlow, hB⟩
  clear hra h1 hr hO hfr hT hlow hB hul
  rintro j us w4 ⟨hj, h1, hr, hO, hfr, hT, hlow, hB⟩
  have hul := hO.len
  rw [mapTo_len] at hul
  refine c_seq (q0 (l_p 2 tK rfl ?_))
  refine lC (o_ld tK (h1.cell 9 _ rfl) rfl rfl rfl rfl rfl ?_)
  refine lC (o_lenO tK hr rfl rfl rfl rfl rfl ?_)
  refine l_p 1 tK rfl (q1 ?_)
  refine c_ifP _ rfl (fun c2 => ?_) (fun c2 => ?_)
  · refine c_skip (x_seq (c_seq (c_blk (q0 (l_p 1 tK rfl ?_)))))
    refine lC (o_ld tK (h1.cell 9 _ rfl) rfl rfl rfl rfl rfl ?_)
    refine l_p 1 tK rfl ?_
    have hik : j < t.kids.length := by omega
    obtain ⟨⟨uv⟩, G, hui, hx, hGF, hOh⟩ := hO.take (mapTo_get hik)
    refine lC (o_ixO tK hr hui rfl rfl rfl rfl rfl rfl rfl rfl rfl ?_)
    intro ebx eux hobx hRx hatx
    obtain ⟨e0, _⟩ := hRx
    replace e0 : eux = uv := e0
    subst e0
    obtain ⟨akvx, kvx, usx, Hx, FAx, rfl, hoax, hklx, hrx, hOx, hHx, hAx⟩ := otm_open hx
    replace hatx : OAt _ _ _ [.int .u8 t.kids[j].op, .string t.kids[j].name, .string t.kids[j].arg, .int .i64 t.kids[j].n, .bool t.kids[j].has, .int .u8 t.kids[j].ann.op, .string t.kids[j].ann.name, .int .i64 t.kids[j].ann.n, akvx, kvx] := hatx
    refine lC (o_lds tK (fun j v hv => hatx.cell j v hv) rfl rfl rfl rfl rfl rfl ?_)
    have lH := hOh.lt
    have lr := hr.lt
    refine lC (o_call fo50 rfl rfl rfl (ih _ (List.getElem_mem hik) M _ B _ G hx (fun c hc => hF c (hH c (hGF c hc)).1) hlow hB) ?_)
    rintro _ w5 ⟨rfl, sw5, kw5⟩
    have frw5 : ∀ x, x < w4.heap.size → ¬ G x → w5.heap[x]? = w4.heap[x]? := fun x hx hg => kw5.blk x ⟨hx, hg⟩
    replace hT := hT.then sw5
    replace hr := hr.stp sw5 (fun x hx => frw5 x (hr.lt x hx).2 (fun g => (hH x (hGF x g)).2 hx))
    replace hfr := hfr.stp sw5 (fun x hx => frw5 x (hfr.lt x hx).2 (fun g => hx.2 (hH x (hGF x g)).1))
    replace hOh := hOh.stp sw5 (fun c hc hn => frw5 c (hOh.lt c hc).2 hn)
    replace h1 := h1.stp sw5
    replace hlow := sw5.low
    replace hB := sw5.z hB
    clear hx
    refine q1 (c_reg (l_p 1 tK rfl ?_))
    refine lC (o_ld tK (h1.cell 9 _ rfl) rfl rfl rfl rfl rfl ?_)
    refine l_p 1 tK rfl ?_
    refine lC (o_build (cells := [.int .u8 0, .string ⟨#[]⟩, .string ⟨#[]⟩, .int .i64 0, .bool false, .int .u8 0, .string ⟨#[]⟩, .int .i64 0, .slice none 0 0, .slice none 0 0]) (css := []) bd84 rfl rfl rfl rfl rfl ?_)
    refine lC (o_ixO tK hr hui rfl rfl rfl rfl rfl rfl rfl rfl rfl ?_)
    intro ebz euz hobz hRz hatz
    refine lC (o_stO tK hr hobz (by omega) (otm_leaf (A := 40) (E := 84) (B := B) (w := w5)).vn hlow rfl rfl rfl rfl rfl rfl ?_)
    intro w6 hw6 sw6 frw6
    replace hT := hT.then sw6
    replace hfr := hfr.stp sw6 (fun x hx => frw6 x (hfr.lt x hx).2 (fun e => dd_hr_hfr _ x hobz hx e.symm))
    replace hOh := hOh.stp sw6 (fun c hc hn => frw6 c (hOh.lt c hc).2 (fun e => (hH c hc).2 (e ▸ hobz)))
    replace h1 := h1.stp sw6
    replace hlow := sw6.low
    replace hB := sw6.z hB
    replace hr := hw6
    clear hw6
    have hO := (hOh.put (otm_leaf (A := 40) (E := 84) (B := B)) (fun _ h => h.elim)).mono (F' := H) (fun c h => h.elim id (fun h => h.elim)) hOh.lt
    replace hO : OMs 40 84 B w6 (us.set j ⟨.agg #[.int .u8 0, .string ⟨#[]⟩, .string ⟨#[]⟩, .int .i64 0, .bool false, .int .u8 0, .string ⟨#[]⟩, .int .i64 0, .slice none 0 0, .slice none 0 0]⟩) (mapTo (fun _ => tz5) t.kids (j + 1)) H := by rw [← mapTo_set hik]; exact hO
    clear hOh
    refine q2 (x_seq (c_reg (l_p 1 tK rfl ?_)))
    refine lC (o_ai rfl rfl rfl (by omega) rfl rfl ?_)
    refine l_p 1 tK rfl (l_nil ?_)
    exact x_round2 (j + 1) (us.set j ⟨.agg #[.int .u8 0, .string ⟨#[]⟩, .string ⟨#[]⟩, .int .i64 0, .bool false, .int .u8 0, .string ⟨#[]⟩, .int .i64 0, .slice none 0 0, .slice none 0 0]⟩) (s2 rfl (get_num rfl (by omega))) ⟨by omega, h1, hr, hO, hfr, hT, hlow, hB⟩ (by omega)
  refine c_exit (x_seqE (x_seqE (x_blkE ?_)))
  refine x_ret0n rfl ?_
  exact ⟨rfl, hT, hfr⟩
theorem node0_own (t : Tm) (M : Nat → Prop) (w : World) (v : Value) (ht : Rep.R M w v t) (hlow0 : Low M w) (hz : AnnS t) (hsz : nsz t ≤ 2000000) :
    Calls Try.prog 51 #[v, .int .i64 0] w (Ret fun r w' => (∃ x, r = .tuple #[x, .bool true] ∧ OTm 40 84 w.heap.size w' t x (Plus NoM w w')) ∧ Ext w w') := by
  have hlow := hlow0
  have hB : w.heap.size ≤ w.heap.size := Nat.le_refl _
  have hE : Below w.heap.size w w := Below.refl _ _
  have hsub : ∀ b, M b → M b := fun _ h => h
  obtain ⟨akv, kv, rfl, op, nm, ag, n64, ha, hk⟩ := tm_open ht
  refine c_enter (n := 19) Try.func51 rfl rfl rfl ?_
  refine q0 ?_
  refine lC (o_box rfl rfl rfl ?_)
  intro b2 w1 hb_b2 ew1 h2
  replace h2 : Box _ b2 84 [.int .u8 t.op, .string t.name, .string t.arg, .int .i64 t.n, .bool t.has, .int .u8 t.ann.op, .string t.ann.name, .int .i64 t.ann.n, akv, kv] := h2
  replace h2 := h2.at (nM_of hlow hb_b2)
  replace hE := ew1.bl hE hB
  replace ht := Rep.ext ht ew1
  replace ha := Rep.ext ha ew1
  replace hk := hk.ext ew1
  replace hlow := hlow.ext ew1
  replace hB := ew1.z hB
  refine lC (o_box rfl rfl rfl ?_)
  intro b3 w2 qb3 ew2 hb3
  have sw2 := Stp.add ew2 hlow hB (Nat.le_of_eq qb3.symm) hb3.lt
  have h3 : MB w.heap.size (Rw.Add M b3) w2 b3 3 [.int .i64 0] := MB.mk' hb3 qb3 hB
  replace hE := hE.trans sw2.below
  replace ht := Rep.stp ht sw2
  replace ha := Rep.stp ha sw2
  replace hk := hk.stp sw2
  replace h2 := h2.stp sw2
  replace hsub := sw2.sb hsub
  replace hlow := sw2.low
  replace hB := sw2.z hB
  refine lC (o_new tK rfl rfl rfl ?_)
  intro b4 w3 qb4 ew3 hb4
  have ne_h3_h4 : b3 ≠ b4 := by have := h3.lt; omega
  have sw3 := Stp.add ew3 hlow hB (Nat.le_of_eq qb4.symm) hb4.lt
  have h4 : MB w.heap.size (Rw.Add (Rw.Add M b3) b4) w3 b4 84 [.int .u8 0, .string ⟨#[]⟩, .string ⟨#[]⟩, .int .i64 0, .bool false, .int .u8 0, .string ⟨#[]⟩, .int .i64 0, .slice none 0 0, .slice none 0 0] := MB.mk' hb4 qb4 hB
  replace h3 := h3.stp sw3 (ew3.block b3 h3.lt)
  replace hE := hE.trans sw3.below
  replace ht := Rep.stp ht sw3
  replace ha := Rep.stp ha sw3
  replace hk := hk.stp sw3
  replace h2 := h2.stp sw3
  replace hsub := sw3.sb hsub
  replace hlow := sw3.low
  replace hB := sw3.z hB
  refine l_p 1 tK rfl (q1 (c_seq (q0 ?_)))
  refine lC (o_ld tK (h3.cell 0 _ rfl) rfl rfl rfl rfl rfl ?_)
  refine l_p 1 tK rfl (q1 ?_)
  refine c_ifP _ rfl (fun c1 => ?_) (fun c1 => ?_)
  · first | (exfalso; omega) | exact absurd c1 (by simp)
  refine c_skip (x_seq (q0 ?_))
  refine lC (o_lds tK (fun j v hv => h2.cell j v hv) rfl rfl rfl rfl rfl rfl ?_)
  refine lC (o_call fo90 rfl rfl rfl (node_spec t 0 (Rw.Add (Rw.Add M b3) b4) _ w.heap.size b3 _ ht h3 hlow hB hsz (by omega)) ?_)
  rintro _ w4 ⟨⟨xv, rfl, hx8⟩, ⟨dn, h3w4, hd⟩, sw4, kw4⟩
  rw [nodeAt_zero] at hx8
  have frw4 : ∀ x, x < w3.heap.size → x ≠ b3 → w4.heap[x]? = w3.heap[x]? := fun x hx hn => kw4.blk x ⟨hx, hn⟩
  replace h4 := h4.stp sw4 (frw4 b4 h4.lt ne_h3_h4.symm)
  replace hE := hE.trans sw4.below
  replace ht := Rep.stp ht sw4
  replace ha := Rep.stp ha sw4
  replace hk := hk.stp sw4
  replace h2 := h2.stp sw4
  replace hsub := sw4.sb hsub
  replace hlow := sw4.low
  replace hB := sw4.z hB
  replace h3 := h3w4
  clear h3w4
  obtain ⟨akvq, kvq, rfl, opq, nmq, agq, n64q, haq, hkq⟩ := tm_open hx8
  refine l_p 3 tK rfl ?_
  refine lC (o_new tK rfl rfl rfl ?_)
  intro b6 w5 qb6 ew5 hb6
  have nb6 := nM_of hlow qb6
  refine lC (o_st tK hb6 rfl rfl rfl rfl (Rep.one hx8) rfl rfl ?_)
  intro w6 h6 uw6 bew6
  have ew6 : Ext w4 w6 := ew5.trans (bew6 _ (Nat.le_of_eq qb6.symm))
  replace h3 := h3.ext hlow hB ew6
  replace h4 := h4.ext hlow hB ew6
  replace hE := ew6.bl hE hB
  replace ht := Rep.ext ht ew6
  replace ha := Rep.ext ha ew6
  replace hk := hk.ext ew6
  replace h2 := h2.ext ew6
  replace hx8 := Rep.ext hx8 ew6
  replace haq := Rep.ext haq ew6
  replace hkq := hkq.ext ew6
  replace hlow := hlow.ext ew6
  replace hB := ew6.z hB
  replace h6 : Box w6 b6 84 [.int .u8 t.op, .string t.name, .string t.arg, .int .i64 t.n, .bool t.has, .int .u8 t.ann.op, .string t.ann.name, .int .i64 t.ann.n, akvq, kvq] := h6
  replace h6 := h6.at nb6
  refine l_p 1 tK rfl (q1 (q0 ?_))
  refine lC (o_lds tK (fun j v hv => h6.cell j v hv) rfl rfl rfl rfl rfl rfl ?_)
  have l_h4 := h4.lt
  have hB0 := hB
  refine lC (o_call fo49 rfl rfl rfl (copyM_own _ _ _ _ hx8 hlow hz hsz) ?_)
  rintro vr w7 ⟨hr, ew7⟩
  replace hr := hr.ge hB0
  have hGl : ∀ c, Plus NoM w6 w7 c → w6.heap.size ≤ c := fun c h => h.elim (fun h => h.elim) (fun h => h.1)
  replace h3 := h3.ext hlow hB ew7
  replace h4 := h4.ext hlow hB ew7
  replace hE := ew7.bl hE hB
  replace ht := Rep.ext ht ew7
  replace ha := Rep.ext ha ew7
  replace hk := hk.ext ew7
  replace h2 := h2.ext ew7
  replace hx8 := Rep.ext hx8 ew7
  replace haq := Rep.ext haq ew7
  replace hkq := hkq.ext ew7
  replace h6 := h6.ext ew7
  replace hlow := hlow.ext ew7
  replace hB := ew7.z hB
  generalize Plus NoM w6 w7 = G at hr hGl
  have d_hr_h4 : ∀ x, G x → x ≠ b4 := fun x hx => by have := hGl x hx; omega
  obtain ⟨akvr, kvr, usr, Hr, FAr, rfl, hoar, hklr, hrr, hOr, hHr, hAr⟩ := otm_open hr
  refine l_p 1 tK rfl ?_
  refine lC (o_st tK h4.box rfl rfl rfl rfl hr.one rfl rfl ?_)
  intro w8 hw8 qw8 bew8
  have uw8 : UpdB _ _ _ := ⟨qw8, bew8⟩
  have sw8 := uw8.stp h4.inM hlow h4.ge
  have frw8 := qw8.2
  replace h3 := h3.stp sw8 (frw8 b3 h3.lt ne_h3_h4)
  replace hr := hr.stp sw8 (fun x hx => frw8 x (hr.lt x hx).2 (d_hr_h4 x hx))
  replace hE := hE.trans sw8.below
  replace ht := Rep.stp ht sw8
  replace ha := Rep.stp ha sw8
  replace hk := hk.stp sw8
  replace h2 := h2.stp sw8
  replace hx8 := Rep.stp hx8 sw8
  replace haq := Rep.stp haq sw8
  replace hkq := hkq.stp sw8
  replace h6 := h6.stp sw8
  replace hsub := sw8.sb hsub
  replace hlow := sw8.low
  replace hB := sw8.z hB
  replace h4 : MB w.heap.size _ w8 b4 _ [.int .u8 t.op, .string t.name, .string t.arg, .int .i64 t.n, .bool t.has, .int .u8 t.ann.op, .string t.ann.name, .int .i64 t.ann.n, akvr, kvr] := ⟨hw8, h4.inM, h4.ge⟩
  refine l_p 1 tK rfl (q1 (c_ret ?_))
  refine x_ret2st tK (fun j v hv => h4.cell j v hv) rfl rfl rfl rfl rfl rfl ?_
  have hfin := hr.mono (F' := Plus NoM w w8) (fun c hc => .inr (hr.lt c hc)) (fun c hc => hc.elim (fun h => h.elim) id)
  rw [show decide (0 < nsz t) = true from decide_eq_true (nsz_pos t)]
  exact ⟨⟨_, rfl, hfin⟩, hE⟩
theorem treeCopies_spec (t : Tm) (M : Nat → Prop) (w : World) (v : Value) (ht : Rep.R M w v t) (hzt : tmsz t ≤ 2000000) (hlow : Low M w) :
    Calls Try.prog 11 #[v] w (Ret fun r w' => r = .bool true ∧ Ext w w') := by
  have hlow0 := hlow
  have hz := annS_tmsz hzt
  have hns := Nat.le_trans (nsz_tmsz t) hzt
  have hast := Nat.le_trans (asz_tmsz t) hzt
  have hlow := hlow
  have hB : w.heap.size ≤ w.heap.size := Nat.le_refl _
  have hE : Below w.heap.size w w := Below.refl _ _
  have hsub : ∀ b, M b → M b := fun _ h => h
  obtain ⟨akv, kv, rfl, op, nm, ag, n64, ha, hk⟩ := tm_open ht
  refine c_enter (n := 31) Try.func11 rfl rfl rfl ?_
  refine q0 ?_
  refine lC (o_box rfl rfl rfl ?_)
  intro b1 w1 hb_b1 ew1 h1
  replace h1 : Box _ b1 84 [.int .u8 t.op, .string t.name, .string t.arg, .int .i64 t.n, .bool t.has, .int .u8 t.ann.op, .string t.ann.name, .int .i64 t.ann.n, akv, kv] := h1
  replace h1 := h1.at (nM_of hlow hb_b1)
  replace hE := ew1.bl hE hB
  replace ht := Rep.ext ht ew1
  replace ha := Rep.ext ha ew1
  replace hk := hk.ext ew1
  replace hlow := hlow.ext ew1
  replace hB := ew1.z hB
  refine l_p 1 tK rfl (q1 (c_seq (q0 ?_)))
  refine lC (o_call fo47 rfl rfl rfl (alive5_spec _ _ hlow) ?_)
  rintro _ w2 ⟨rfl, ew2⟩
  replace hE := ew2.bl hE hB
  replace ht := Rep.ext ht ew2
  replace ha := Rep.ext ha ew2
  replace hk := hk.ext ew2
  replace h1 := h1.ext ew2
  replace hlow := hlow.ext ew2
  replace hB := ew2.z hB
  refine l_p 1 tK rfl (q1 ?_)
  refine c_ifB _ rfl (fun c1 => ?_) (fun c1 => ?_)
  · first | (exfalso; omega) | exact absurd c1 (by simp)
  refine c_skip (x_seq (c_seq (q0 ?_)))
  refine lC (o_lds tK (fun j v hv => h1.cell j v hv) rfl rfl rfl rfl rfl rfl ?_)
  refine lC (o_call fo48 rfl rfl rfl (many5_spec t _ _ _ ht hlow hz hns hast) ?_)
  rintro _ w3 ⟨rfl, ew3⟩
  replace hE := ew3.bl hE hB
  replace ht := Rep.ext ht ew3
  replace ha := Rep.ext ha ew3
  replace hk := hk.ext ew3
  replace h1 := h1.ext ew3
  replace hlow := hlow.ext ew3
  replace hB := ew3.z hB
  refine q1 ?_
  refine c_if _ rfl (fun c2 => ?_) (fun c2 => ?_)
  · refine q0 (l_p 1 tK rfl (q1 (c_ret (x_seqR (x_ret1 rfl rfl ?_)))))
    exact ⟨rfl, hE⟩
  refine c_skip (x_seq (c_seq ?_))
  refine a_beg Ext rfl ?_
  intro w4 ew4
  replace hE := ew4.bl hE hB
  replace ht := Rep.ext ht ew4
  replace ha := Rep.ext ha ew4
  replace hk := hk.ext ew4
  replace h1 := h1.ext ew4
  replace hlow := hlow.ext ew4
  replace hB := ew4.z hB
  have hS : Ext w4 w4 := ext_refl _
  have D_hk := hk
  have D_h1 := h1
  refine a_lds 0 tK (fun _ hs j v hv => (D_h1.ext hs).cell j v hv) rfl rfl rfl rfl rfl rfl rfl (by kernel_rfl) (fun _ _ _ h => h) hS ?_
  refine a_lds 2 tK (fun _ hs j v hv => (D_h1.ext hs).cell j v hv) rfl rfl rfl rfl rfl rfl rfl (by kernel_rfl) (fun _ _ _ h => h) hS ?_
  refine a_all [1, 4, 5] (by kernel_rfl) rfl (all_cons (i := 1) rfl ?_ (all_cons (i := 4) rfl ?_ (all_cons (i := 5) rfl ?_ all_nil)))
  · refine o_call fo49 rfl rfl rfl (copyM_own t _ _ _ ht hlow hz hns) ?_
    rintro vc w5 ⟨hc, ew5⟩
    replace hc := hc.ge hB
    have hGl : ∀ c, Plus NoM w4 w5 c → w4.heap.size ≤ c ∧ c < w5.heap.size := fun c h => h.elim (fun h => h.elim) id
    generalize Plus NoM w4 w5 = G at hc hGl
    have sw5 := (Stp.ext ew5 hlow hB).more hGl
    replace hS := hS.then ew5
    replace hE := hE.trans sw5.below
    replace ht := Rep.stp ht sw5
    replace ha := Rep.stp ha sw5
    replace hk := hk.stp sw5
    replace h1 := h1.stp sw5
    replace hsub := sw5.sb hsub
    replace hlow := sw5.low
    replace hB := sw5.z hB
    refine ⟨hS, ?_⟩
    obtain ⟨akvc, kvc, usc, Hc, FAc, rfl, hoac, hklc, hrc, hOc, hHc, hAc⟩ := otm_open hc
    refine a_all [3, 4, 5] (by kernel_rfl) rfl (all_cons (i := 3) rfl ?_ (all_cons (i := 4) rfl ?_ (all_cons (i := 5) rfl ?_ all_nil)))
    · refine o_call fo49 rfl rfl rfl (copyM_spec t _ _ _ ht hlow hz hns) ?_
      rintro vhd w6 ⟨hd, ew6⟩
      replace hS := hS.then ew6
      replace hc := hc.ext hlow hB ew6
      replace hE := ew6.bl hE hB
      replace ht := Rep.ext ht ew6
      replace ha := Rep.ext ha ew6
      replace hk := hk.ext ew6
      replace h1 := h1.ext ew6
      replace hlow := hlow.ext ew6
      replace hB := ew6.z hB
      refine ⟨hS, ?_⟩
      obtain ⟨akvd, kvd, rfl, opd, nmd, agd, n64d, had, hkd⟩ := tm_open hd
      refine a_all [4, 5] (by kernel_rfl) rfl (all_cons (i := 4) rfl ?_ (all_cons (i := 5) rfl ?_ all_nil))
      · refine o_new tK rfl rfl rfl ?_
        intro b3 w7 qb3 ew7 hb3
        have gS_b3 := Nat.le_trans hS.size (Nat.le_of_eq qb3.symm)
        replace hS := hS.then ew7
        have d_hc_h3 : ∀ x, G x → x ≠ b3 := fun x hx => by have := (hc.lt x hx).2; omega
        have sw7 := Stp.add ew7 hlow hB (Nat.le_of_eq qb3.symm) hb3.lt
        have h3 : MB w.heap.size (Rw.Add (Or2 M G) b3) w7 b3 84 [.int .u8 0, .string ⟨#[]⟩, .string ⟨#[]⟩, .int .i64 0, .bool false, .int .u8 0, .string ⟨#[]⟩, .int .i64 0, .slice none 0 0, .slice none 0 0] := MB.mk' hb3 qb3 hB
        replace hc := hc.stp sw7 (fun x hx => ew7.block x (hc.lt x hx).2)
        replace hE := hE.trans sw7.below
        replace ht := Rep.stp ht sw7
        replace ha := Rep.stp ha sw7
        replace hk := hk.stp sw7
        replace h1 := h1.stp sw7
        replace hd := Rep.stp hd sw7
        replace had := Rep.stp had sw7
        replace hkd := hkd.stp sw7
        replace hsub := sw7.sb hsub
        replace hlow := sw7.low
        replace hB := sw7.z hB
        refine ⟨hS, ?_⟩
        refine a_one 5 rfl (by kernel_rfl) (o_new tK rfl rfl rfl ?_)
        intro b4 w8 qb4 ew8 hb4
        have gS_b4 := Nat.le_trans hS.size (Nat.le_of_eq qb4.symm)
        replace hS := hS.then ew8
        have d_hc_h4 : ∀ x, G x → x ≠ b4 := fun x hx => by have := (hc.lt x hx).2; omega
        have ne_h3_h4 : b3 ≠ b4 := by have := h3.lt; omega
        have sw8 := Stp.add ew8 hlow hB (Nat.le_of_eq qb4.symm) hb4.lt
        have h4 : MB w.heap.size (Rw.Add (Rw.Add (Or2 M G) b3) b4) w8 b4 84 [.int .u8 0, .string ⟨#[]⟩, .string ⟨#[]⟩, .int .i64 0, .bool false, .int .u8 0, .string ⟨#[]⟩, .int .i64 0, .slice none 0 0, .slice none 0 0] := MB.mk' hb4 qb4 hB
        replace hc := hc.stp sw8 (fun x hx => ew8.block x (hc.lt x hx).2)
        replace h3 := h3.stp sw8 (ew8.block b3 h3.lt)
        replace hE := hE.trans sw8.below
        replace ht := Rep.stp ht sw8
        replace ha := Rep.stp ha sw8
        replace hk := hk.stp sw8
        replace h1 := h1.stp sw8
        replace hd := Rep.stp hd sw8
        replace had := Rep.stp had sw8
        replace hkd := hkd.stp sw8
        replace hsub := sw8.sb hsub
        replace hlow := sw8.low
        replace hB := sw8.z hB
        refine ⟨hS, ?_⟩
        refine a_barS Ext 6 rfl (by kernel_rfl) (by kernel_rfl) (o_st tK h3.box rfl rfl rfl rfl hc.one rfl rfl ?_)
        intro w9 hw9 qw9 bew9
        have uw9 : UpdB _ _ _ := ⟨qw9, bew9⟩
        have sw9 := uw9.stp h3.inM hlow h3.ge
        have frw9 := qw9.2
        replace hc := hc.stp sw9 (fun x hx => frw9 x (hc.lt x hx).2 (d_hc_h3 x hx))
        replace h4 := h4.stp sw9 (frw9 b4 h4.lt ne_h3_h4.symm)
        replace hE := hE.trans sw9.below
        replace ht := Rep.stp ht sw9
        replace ha := Rep.stp ha sw9
        replace hk := hk.stp sw9
        replace h1 := h1.stp sw9
        replace hd := Rep.stp hd sw9
        replace had := Rep.stp had sw9
        replace hkd := hkd.stp sw9
        replace hsub := sw9.sb hsub
        replace hlow := sw9.low
        replace hB := sw9.z hB
        replace hS : Ext w9 w9 := ext_refl _
        replace h3 : MB w.heap.size _ w9 b3 _ [.int .u8 t.op, .string t.name, .string t.arg, .int .i64 t.n, .bool t.has, .int .u8 t.ann.op, .string t.ann.name, .int .i64 t.ann.n, akvc, kvc] := ⟨hw9, h3.inM, h3.ge⟩
        have D_hk := hk
        have D_h1 := h1
        have D_hkd := hkd
        have D_h3 := h3.box
        have D_h4 := h4.box
        refine a_barS Ext 7 rfl (by kernel_rfl) (by kernel_rfl) (o_st tK h4.box rfl rfl rfl rfl (Rep.one hd) rfl rfl ?_)
        intro w10 hw10 qw10 bew10
        have uw10 : UpdB _ _ _ := ⟨qw10, bew10⟩
        have sw10 := uw10.stp h4.inM hlow h4.ge
        have frw10 := qw10.2
        replace hc := hc.stp sw10 (fun x hx => frw10 x (hc.lt x hx).2 (d_hc_h4 x hx))
        replace h3 := h3.stp sw10 (frw10 b3 h3.lt ne_h3_h4)
        replace hE := hE.trans sw10.below
        replace ht := Rep.stp ht sw10
        replace ha := Rep.stp ha sw10
        replace hk := hk.stp sw10
        replace h1 := h1.stp sw10
        replace hd := Rep.stp hd sw10
        replace had := Rep.stp had sw10
        replace hkd := hkd.stp sw10
        replace hsub := sw10.sb hsub
        replace hlow := sw10.low
        replace hB := sw10.z hB
        replace hS : Ext w10 w10 := ext_refl _
        replace h4 : MB w.heap.size _ w10 b4 _ [.int .u8 t.op, .string t.name, .string t.arg, .int .i64 t.n, .bool t.has, .int .u8 t.ann.op, .string t.ann.name, .int .i64 t.ann.n, akvd, kvd] := ⟨hw10, h4.inM, h4.ge⟩
        have D_hk := hk
        have D_h1 := h1
        have D_hkd := hkd
        have D_h3 := h3.box
        have D_h4 := h4.box
        refine a_end (by kernel_rfl) ?_
        refine x_seq (c_seq (q0 ?_))
        refine lC (o_lds tK (fun j v hv => h3.cell j v hv) rfl rfl rfl rfl rfl rfl ?_)
        refine lC (o_lds tK (fun j v hv => h1.cell j v hv) rfl rfl rfl rfl rfl rfl ?_)
        have hal3 := alikeM_spec t t NoM w10 _ _ (hc.rep (M := NoM) (fun _ _ h => h)) (Rep.wk ht (fun _ _ h => h.elim)) (low_noM _)
        rw [cl_true rfl] at hal3
        refine lC (o_call fo37 rfl rfl rfl (hal3) ?_)
        rintro _ w11 ⟨rfl, ew11⟩
        replace hc := hc.ext hlow hB ew11
        replace h3 := h3.ext hlow hB ew11
        replace h4 := h4.ext hlow hB ew11
        replace hE := ew11.bl hE hB
        replace ht := Rep.ext ht ew11
        replace ha := Rep.ext ha ew11
        replace hk := hk.ext ew11
        replace h1 := h1.ext ew11
        replace hd := Rep.ext hd ew11
        replace had := Rep.ext had ew11
        replace hkd := hkd.ext ew11
        replace hlow := hlow.ext ew11
        replace hB := ew11.z hB
        refine l_p 1 tK rfl (q1 (c_ifF rfl (c_skip (x_seq (q0 ?_)))))
        refine lC (o_lds tK (fun j v hv => h3.cell j v hv) rfl rfl rfl rfl rfl rfl ?_)
        refine lC (o_call fo50 rfl rfl rfl (spoil_spec t (Rw.Add (Rw.Add (Or2 M G) b3) b4) _ w.heap.size _ G hc (fun c hc => by first | exact .inr hc | exact .inl (.inr hc) | exact .inl (.inl (.inr hc))) hlow hB) ?_)
        rintro _ w12 ⟨rfl, sw12, kw12⟩
        have frw12 : ∀ x, x < w11.heap.size → ¬ G x → w12.heap[x]? = w11.heap[x]? := fun x hx hg => kw12.blk x ⟨hx, hg⟩
        replace h3 := h3.stp sw12 (frw12 b3 h3.lt (fun g => d_hc_h3 _ g rfl))
        replace h4 := h4.stp sw12 (frw12 b4 h4.lt (fun g => d_hc_h4 _ g rfl))
        replace hE := hE.trans sw12.below
        replace ht := Rep.stp ht sw12
        replace ha := Rep.stp ha sw12
        replace hk := hk.stp sw12
        replace h1 := h1.stp sw12
        replace hd := Rep.stp hd sw12
        replace had := Rep.stp had sw12
        replace hkd := hkd.stp sw12
        replace hsub := sw12.sb hsub
        replace hlow := sw12.low
        replace hB := sw12.z hB
        refine q1 (q0 ?_)
        refine lC (o_lds tK (fun j v hv => h1.cell j v hv) rfl rfl rfl rfl rfl rfl ?_)
        have l_h3 := h3.lt
        have l_h4 := h4.lt
        refine lC (o_call fo51 rfl rfl rfl (node0_own t _ _ _ ht hlow hz hns) ?_)
        rintro _ w13 ⟨⟨vx, rfl, hx⟩, ew13⟩
        replace hx := hx.ge hB
        have hGX : ∀ c, Plus NoM w12 w13 c → w12.heap.size ≤ c ∧ c < w13.heap.size := fun c h => h.elim (fun h => h.elim) id
        generalize Plus NoM w12 w13 = GX at hx hGX
        have sw13 := (Stp.ext ew13 hlow hB).more hGX
        replace h3 := h3.stp sw13 (ew13.block b3 h3.lt)
        replace h4 := h4.stp sw13 (ew13.block b4 h4.lt)
        replace hE := hE.trans sw13.below
        replace ht := Rep.stp ht sw13
        replace ha := Rep.stp ha sw13
        replace hk := hk.stp sw13
        replace h1 := h1.stp sw13
        replace hd := Rep.stp hd sw13
        replace had := Rep.stp had sw13
        replace hkd := hkd.stp sw13
        replace hsub := sw13.sb hsub
        replace hlow := sw13.low
        replace hB := sw13.z hB
        have d_hx_h3 : ∀ x, GX x → x ≠ b3 := fun x hx => by have := (hGX x hx).1; omega
        have d_hx_h4 : ∀ x, GX x → x ≠ b4 := fun x hx => by have := (hGX x hx).1; omega
        obtain ⟨akvx, kvx, usx, Hx, FAx, rfl, hoax, hklx, hrx, hOx, hHx, hAx⟩ := otm_open hx
        refine l_p 3 tK rfl ?_
        refine lC (o_new tK rfl rfl rfl ?_)
        intro b5 w14 qb5 ew14 hb5
        have nb5 := nM_of hlow qb5
        refine lC (o_st tK hb5 rfl rfl rfl rfl hx.one rfl rfl ?_)
        intro w15 h5 uw15 bew15
        have ew15 : Ext w13 w15 := ew14.trans (bew15 _ (Nat.le_of_eq qb5.symm))
        replace h3 := h3.ext hlow hB ew15
        replace h4 := h4.ext hlow hB ew15
        replace hx := hx.ext hlow hB ew15
        replace hE := ew15.bl hE hB
        replace ht := Rep.ext ht ew15
        replace ha := Rep.ext ha ew15
        replace hk := hk.ext ew15
        replace h1 := h1.ext ew15
        replace hd := Rep.ext hd ew15
        replace had := Rep.ext had ew15
        replace hkd := hkd.ext ew15
        replace hlow := hlow.ext ew15
        replace hB := ew15.z hB
        replace h5 : Box w15 b5 84 [.int .u8 t.op, .string t.name, .string t.arg, .int .i64 t.n, .bool t.has, .int .u8 t.ann.op, .string t.ann.name, .int .i64 t.ann.n, akvx, kvx] := h5
        replace h5 := h5.at nb5
        refine l_p 1 tK rfl (q1 (q0 ?_))
        refine lC (o_lds tK (fun j v hv => h5.cell j v hv) rfl rfl rfl rfl rfl rfl ?_)
        refine lC (o_call fo50 rfl rfl rfl (spoil_spec t (Or2 (Rw.Add (Rw.Add (Or2 M G) b3) b4) GX) _ w.heap.size _ GX hx (fun c hc => by first | exact .inr hc | exact .inl (.inr hc) | exact .inl (.inl (.inr hc))) hlow hB) ?_)
        rintro _ w16 ⟨rfl, sw16, kw16⟩
        have frw16 : ∀ x, x < w15.heap.size → ¬ GX x → w16.heap[x]? = w15.heap[x]? := fun x hx hg => kw16.blk x ⟨hx, hg⟩
        replace h3 := h3.stp sw16 (frw16 b3 h3.lt (fun g => d_hx_h3 _ g rfl))
        replace h4 := h4.stp sw16 (frw16 b4 h4.lt (fun g => d_hx_h4 _ g rfl))
        replace hE := hE.trans sw16.below
        replace ht := Rep.stp ht sw16
        replace ha := Rep.stp ha sw16
        replace hk := hk.stp sw16
        replace h1 := h1.stp sw16
        replace hd := Rep.stp hd sw16
        replace had := Rep.stp had sw16
        replace hkd := hkd.stp sw16
        replace h5 := h5.stp sw16
        replace hsub := sw16.sb hsub
        replace hlow := sw16.low
        replace hB := sw16.z hB
        refine q1 (q0 ?_)
        refine lC (o_lds tK (fun j v hv => h4.cell j v hv) rfl rfl rfl rfl rfl rfl ?_)
        refine lC (o_lds tK (fun j v hv => h1.cell j v hv) rfl rfl rfl rfl rfl rfl ?_)
        have hal4 := alikeM_spec t t NoM w16 _ _ (Rep.wk hd (fun _ _ h => h.elim)) (Rep.wk ht (fun _ _ h => h.elim)) (low_noM _)
        rw [cl_true rfl] at hal4
        refine lC (o_call fo37 rfl rfl rfl (hal4) ?_)
        rintro _ w17 ⟨rfl, ew17⟩
        replace h3 := h3.ext hlow hB ew17
        replace h4 := h4.ext hlow hB ew17
        replace hE := ew17.bl hE hB
        replace ht := Rep.ext ht ew17
        replace ha := Rep.ext ha ew17
        replace hk := hk.ext ew17
        replace h1 := h1.ext ew17
        replace hd := Rep.ext hd ew17
        replace had := Rep.ext had ew17
        replace hkd := hkd.ext ew17
        replace h5 := h5.ext ew17
        replace hlow := hlow.ext ew17
        replace hB := ew17.z hB
        refine l_p 1 tK rfl (q1 (c_ret (x_ret1 rfl rfl ?_)))
        exact ⟨rfl, hE⟩
      refine o_new tK rfl rfl rfl ?_
      intro b4 w18 qb4 ew18 hb4
      have gS_b4 := Nat.le_trans hS.size (Nat.le_of_eq qb4.symm)
      replace hS := hS.then ew18
      have d_hc_h4 : ∀ x, G x → x ≠ b4 := fun x hx => by have := (hc.lt x hx).2; omega
      have sw18 := Stp.add ew18 hlow hB (Nat.le_of_eq qb4.symm) hb4.lt
      have h4 : MB w.heap.size (Rw.Add (Or2 M G) b4) w18 b4 84 [.int .u8 0, .string ⟨#[]⟩, .string ⟨#[]⟩, .int .i64 0, .bool false, .int .u8 0, .string ⟨#[]⟩, .int .i64 0, .slice none 0 0, .slice none 0 0] := MB.mk' hb4 qb4 hB
      replace hc := hc.stp sw18 (fun x hx => ew18.block x (hc.lt x hx).2)
      replace hE := hE.trans sw18.below
      replace ht := Rep.stp ht sw18
      replace ha := Rep.stp ha sw18
      replace hk := hk.stp sw18
      replace h1 := h1.stp sw18
      replace hd := Rep.stp hd sw18
      replace had := Rep.stp had sw18
      replace hkd := hkd.stp sw18
      replace hsub := sw18.sb hsub
      replace hlow := sw18.low
      replace hB := sw18.z hB
      refine ⟨hS, ?_⟩
      refine a_one 4 rfl (by kernel_rfl) (o_new tK rfl rfl rfl ?_)
      intro b3 w19 qb3 ew19 hb3
      have gS_b3 := Nat.le_trans hS.size (Nat.le_of_eq qb3.symm)
      replace hS := hS.then ew19
      have d_hc_h3 : ∀ x, G x → x ≠ b3 := fun x hx => by have := (hc.lt x hx).2; omega
      have ne_h4_h3 : b4 ≠ b3 := by have := h4.lt; omega
      have sw19 := Stp.add ew19 hlow hB (Nat.le_of_eq qb3.symm) hb3.lt
      have h3 : MB w.heap.size (Rw.Add (Rw.Add (Or2 M G) b4) b3) w19 b3 84 [.int .u8 0, .string ⟨#[]⟩, .string ⟨#[]⟩, .int .i64 0, .bool false, .int .u8 0, .string ⟨#[]⟩, .int .i64 0, .slice none 0 0, .slice none 0 0] := MB.mk' hb3 qb3 hB
      replace hc := hc.stp sw19 (fun x hx => ew19.block x (hc.lt x hx).2)
      replace h4 := h4.stp sw19 (ew19.block b4 h4.lt)
      replace hE := hE.trans sw19.below
      replace ht := Rep.stp ht sw19
      replace ha := Rep.stp ha sw19
      replace hk := hk.stp sw19
      replace h1 := h1.stp sw19
      replace hd := Rep.stp hd sw19
      replace had := Rep.stp had sw19
      replace hkd := hkd.stp sw19
      replace hsub := sw19.sb hsub
      replace hlow := sw19.low
      replace hB := sw19.z hB
      refine ⟨hS, ?_⟩
      refine a_barS Ext 6 rfl (by kernel_rfl) (by kernel_rfl) (o_st tK h3.box rfl rfl rfl rfl hc.one rfl rfl ?_)
      intro w20 hw20 qw20 bew20
      have uw20 : UpdB _ _ _ := ⟨qw20, bew20⟩
      have sw20 := uw20.stp h3.inM hlow h3.ge
      have frw20 := qw20.2
      replace hc := hc.stp sw20 (fun x hx => frw20 x (hc.lt x hx).2 (d_hc_h3 x hx))
      replace h4 := h4.stp sw20 (frw20 b4 h4.lt ne_h4_h3)
      replace hE := hE.trans sw20.below
      replace ht := Rep.stp ht sw20
      replace ha := Rep.stp ha sw20
      replace hk := hk.stp sw20
      replace h1 := h1.stp sw20
      replace hd := Rep.stp hd sw20
      replace had := Rep.stp had sw20
      replace hkd := hkd.stp sw20
      replace hsub := sw20.sb hsub
      replace hlow := sw20.low
      replace hB := sw20.z hB
      replace hS : Ext w20 w20 := ext_refl _
      replace h3 : MB w.heap.size _ w20 b3 _ [.int .u8 t.op, .string t.name, .string t.arg, .int .i64 t.n, .bool t.has, .int .u8 t.ann.op, .string t.ann.name, .int .i64 t.ann.n, akvc, kvc] := ⟨hw20, h3.inM, h3.ge⟩
      have D_hk := hk
      have D_h1 := h1
      have D_hkd := hkd
      have D_h4 := h4.box
      have D_h3 := h3.box
      refine a_barS Ext 7 rfl (by kernel_rfl) (by kernel_rfl) (o_st tK h4.box rfl rfl rfl rfl (Rep.one hd) rfl rfl ?_)
      intro w21 hw21 qw21 bew21
      have uw21 : UpdB _ _ _ := ⟨qw21, bew21⟩
      have sw21 := uw21.stp h4.inM hlow h4.ge
      have frw21 := qw21.2
      replace hc := hc.stp sw21 (fun x hx => frw21 x (hc.lt x hx).2 (d_hc_h4 x hx))
      replace h3 := h3.stp sw21 (frw21 b3 h3.lt ne_h4_h3.symm)
      replace hE := hE.trans sw21.below
      replace ht := Rep.stp ht sw21
      replace ha := Rep.stp ha sw21
      replace hk := hk.stp sw21
      replace h1 := h1.stp sw21
      replace hd := Rep.stp hd sw21
      replace had := Rep.stp had sw21
      replace hkd := hkd.stp sw21
      replace hsub := sw21.sb hsub
      replace hlow := sw21.low
      replace hB := sw21.z hB
      replace hS : Ext w21 w21 := ext_refl _
      replace h4 : MB w.heap.size _ w21 b4 _ [.int .u8 t.op, .string t.name, .string t.arg, .int .i64 t.n, .bool t.has, .int .u8 t.ann.op, .string t.ann.name, .int .i64 t.ann.n, akvd, kvd] := ⟨hw21, h4.inM, h4.ge⟩
      have D_hk := hk
      have D_h1 := h1
      have D_hkd := hkd
      have D_h4 := h4.box
      have D_h3 := h3.box
      refine a_end (by kernel_rfl) ?_
      refine x_seq (c_seq (q0 ?_))
      refine lC (o_lds tK (fun j v hv => h3.cell j v hv) rfl rfl rfl rfl rfl rfl ?_)
      refine lC (o_lds tK (fun j v hv => h1.cell j v hv) rfl rfl rfl rfl rfl rfl ?_)
      have hal5 := alikeM_spec t t NoM w21 _ _ (hc.rep (M := NoM) (fun _ _ h => h)) (Rep.wk ht (fun _ _ h => h.elim)) (low_noM _)
      rw [cl_true rfl] at hal5
      refine lC (o_call fo37 rfl rfl rfl (hal5) ?_)
      rintro _ w22 ⟨rfl, ew22⟩
      replace hc := hc.ext hlow hB ew22
      replace h4 := h4.ext hlow hB ew22
      replace h3 := h3.ext hlow hB ew22
      replace hE := ew22.bl hE hB
      replace ht := Rep.ext ht ew22
      replace ha := Rep.ext ha ew22
      replace hk := hk.ext ew22
      replace h1 := h1.ext ew22
      replace hd := Rep.ext hd ew22
      replace had := Rep.ext had ew22
      replace hkd := hkd.ext ew22
      replace hlow := hlow.ext ew22
      replace hB := ew22.z hB
      refine l_p 1 tK rfl (q1 (c_ifF rfl (c_skip (x_seq (q0 ?_)))))
      refine lC (o_lds tK (fun j v hv => h3.cell j v hv) rfl rfl rfl rfl rfl rfl ?_)
      refine lC (o_call fo50 rfl rfl rfl (spoil_spec t (Rw.Add (Rw.Add (Or2 M G) b4) b3) _ w.heap.size _ G hc (fun c hc => by first | exact .inr hc | exact .inl (.inr hc) | exact .inl (.inl (.inr hc))) hlow hB) ?_)
      rintro _ w23 ⟨rfl, sw23, kw23⟩
      have frw23 : ∀ x, x < w22.heap.size → ¬ G x → w23.heap[x]? = w22.heap[x]? := fun x hx hg => kw23.blk x ⟨hx, hg⟩
      replace h4 := h4.stp sw23 (frw23 b4 h4.lt (fun g => d_hc_h4 _ g rfl))
      replace h3 := h3.stp sw23 (frw23 b3 h3.lt (fun g => d_hc_h3 _ g rfl))
      replace hE := hE.trans sw23.below
      replace ht := Rep.stp ht sw23
      replace ha := Rep.stp ha sw23
      replace hk := hk.stp sw23
      replace h1 := h1.stp sw23
      replace hd := Rep.stp hd sw23
      replace had := Rep.stp had sw23
      replace hkd := hkd.stp sw23
      replace hsub := sw23.sb hsub
      replace hlow := sw23.low
      replace hB := sw23.z hB
      refine q1 (q0 ?_)
      refine lC (o_lds tK (fun j v hv => h1.cell j v hv) rfl rfl rfl rfl rfl rfl ?_)
      have l_h4 := h4.lt
      have l_h3 := h3.lt
      refine lC (o_call fo51 rfl rfl rfl (node0_own t _ _ _ ht hlow hz hns) ?_)
      rintro _ w24 ⟨⟨vx, rfl, hx⟩, ew24⟩
      replace hx := hx.ge hB
      have hGX : ∀ c, Plus NoM w23 w24 c → w23.heap.size ≤ c ∧ c < w24.heap.size := fun c h => h.elim (fun h => h.elim) id
      generalize Plus NoM w23 w24 = GX at hx hGX
      have sw24 := (Stp.ext ew24 hlow hB).more hGX
      replace h4 := h4.stp sw24 (ew24.block b4 h4.lt)
      replace h3 := h3.stp sw24 (ew24.block b3 h3.lt)
      replace hE := hE.trans sw24.below
      replace ht := Rep.stp ht sw24
      replace ha := Rep.stp ha sw24
      replace hk := hk.stp sw24
      replace h1 := h1.stp sw24
      replace hd := Rep.stp hd sw24
      replace had := Rep.stp had sw24
      replace hkd := hkd.stp sw24
      replace hsub := sw24.sb hsub
      replace hlow := sw24.low
      replace hB := sw24.z hB
      have d_hx_h4 : ∀ x, GX x → x ≠ b4 := fun x hx => by have := (hGX x hx).1; omega
      have d_hx_h3 : ∀ x, GX x → x ≠ b3 := fun x hx => by have := (hGX x hx).1; omega
      obtain ⟨akvx, kvx, usx, Hx, FAx, rfl, hoax, hklx, hrx, hOx, hHx, hAx⟩ := otm_open hx
      refine l_p 3 tK rfl ?_
      refine lC (o_new tK rfl rfl rfl ?_)
      intro b5 w25 qb5 ew25 hb5
      have nb5 := nM_of hlow qb5
      refine lC (o_st tK hb5 rfl rfl rfl rfl hx.one rfl rfl ?_)
      intro w26 h5 uw26 bew26
      have ew26 : Ext w24 w26 := ew25.trans (bew26 _ (Nat.le_of_eq qb5.symm))
      replace h4 := h4.ext hlow hB ew26
      replace h3 := h3.ext hlow hB ew26
      replace hx := hx.ext hlow hB ew26
      replace hE := ew26.bl hE hB
      replace ht := Rep.ext ht ew26
      replace ha := Rep.ext ha ew26
      replace hk := hk.ext ew26
      replace h1 := h1.ext ew26
      replace hd := Rep.ext hd ew26
      replace had := Rep.ext had ew26
      replace hkd := hkd.ext ew26
      replace hlow := hlow.ext ew26
      replace hB := ew26.z hB
      replace h5 : Box w26 b5 84 [.int .u8 t.op, .string t.name, .string t.arg, .int .i64 t.n, .bool t.has, .int .u8 t.ann.op, .string t.ann.name, .int .i64 t.ann.n, akvx, kvx] := h5
      replace h5 := h5.at nb5
      refine l_p 1 tK rfl (q1 (q0 ?_))
      refine lC (o_lds tK (fun j v hv => h5.cell j v hv) rfl rfl rfl rfl rfl rfl ?_)
      refine lC (o_call fo50 rfl rfl rfl (spoil_spec t (Or2 (Rw.Add (Rw.Add (Or2 M G) b4) b3) GX) _ w.heap.size _ GX hx (fun c hc => by first | exact .inr hc | exact .inl (.inr hc) | exact .inl (.inl (.inr hc))) hlow hB) ?_)
      rintro _ w27 ⟨rfl, sw27, kw27⟩
      have frw27 : ∀ x, x < w26.heap.size → ¬ GX x → w27.heap[x]? = w26.heap[x]? := fun x hx hg => kw27.blk x ⟨hx, hg⟩
      replace h4 := h4.stp sw27 (frw27 b4 h4.lt (fun g => d_hx_h4 _ g rfl))
      replace h3 := h3.stp sw27 (frw27 b3 h3.lt (fun g => d_hx_h3 _ g rfl))
      replace hE := hE.trans sw27.below
      replace ht := Rep.stp ht sw27
      replace ha := Rep.stp ha sw27
      replace hk := hk.stp sw27
      replace h1 := h1.stp sw27
      replace hd := Rep.stp hd sw27
      replace had := Rep.stp had sw27
      replace hkd := hkd.stp sw27
      replace h5 := h5.stp sw27
      replace hsub := sw27.sb hsub
      replace hlow := sw27.low
      replace hB := sw27.z hB
      refine q1 (q0 ?_)
      refine lC (o_lds tK (fun j v hv => h4.cell j v hv) rfl rfl rfl rfl rfl rfl ?_)
      refine lC (o_lds tK (fun j v hv => h1.cell j v hv) rfl rfl rfl rfl rfl rfl ?_)
      have hal6 := alikeM_spec t t NoM w27 _ _ (Rep.wk hd (fun _ _ h => h.elim)) (Rep.wk ht (fun _ _ h => h.elim)) (low_noM _)
      rw [cl_true rfl] at hal6
      refine lC (o_call fo37 rfl rfl rfl (hal6) ?_)
      rintro _ w28 ⟨rfl, ew28⟩
      replace h4 := h4.ext hlow hB ew28
      replace h3 := h3.ext hlow hB ew28
      replace hE := ew28.bl hE hB
      replace ht := Rep.ext ht ew28
      replace ha := Rep.ext ha ew28
      replace hk := hk.ext ew28
      replace h1 := h1.ext ew28
      replace hd := Rep.ext hd ew28
      replace had := Rep.ext had ew28
      replace hkd := hkd.ext ew28
      replace h5 := h5.ext ew28
      replace hlow := hlow.ext ew28
      replace hB := ew28.z hB
      refine l_p 1 tK rfl (q1 (c_ret (x_ret1 rfl rfl ?_)))
      exact ⟨rfl, hE⟩
    · refine o_new tK rfl rfl rfl ?_
      intro b3 w29 qb3 ew29 hb3
      have gS_b3 := Nat.le_trans hS.size (Nat.le_of_eq qb3.symm)
      replace hS := hS.then ew29
      have d_hc_h3 : ∀ x, G x → x ≠ b3 := fun x hx => by have := (hc.lt x hx).2; omega
      have sw29 := Stp.add ew29 hlow hB (Nat.le_of_eq qb3.symm) hb3.lt
      have h3 : MB w.heap.size (Rw.Add (Or2 M G) b3) w29 b3 84 [.int .u8 0, .string ⟨#[]⟩, .string ⟨#[]⟩, .int .i64 0, .bool false, .int .u8 0, .string ⟨#[]⟩, .int .i64 0, .slice none 0 0, .slice none 0 0] := MB.mk' hb3 qb3 hB
      replace hc := hc.stp sw29 (fun x hx => ew29.block x (hc.lt x hx).2)
      replace hE := hE.trans sw29.below
      replace ht := Rep.stp ht sw29
      replace ha := Rep.stp ha sw29
      replace hk := hk.stp sw29
      replace h1 := h1.stp sw29
      replace hsub := sw29.sb hsub
      replace hlow := sw29.low
      replace hB := sw29.z hB
      refine ⟨hS, ?_⟩
      refine a_all [3, 5] (by kernel_rfl) rfl (all_cons (i := 3) rfl ?_ (all_cons (i := 5) rfl ?_ all_nil))
      · refine o_call fo49 rfl rfl rfl (copyM_spec t _ _ _ ht hlow hz hns) ?_
        rintro vhd w30 ⟨hd, ew30⟩
        replace hS := hS.then ew30
        replace hc := hc.ext hlow hB ew30
        replace h3 := h3.ext hlow hB ew30
        replace hE := ew30.bl hE hB
        replace ht := Rep.ext ht ew30
        replace ha := Rep.ext ha ew30
        replace hk := hk.ext ew30
        replace h1 := h1.ext ew30
        replace hlow := hlow.ext ew30
        replace hB := ew30.z hB
        refine ⟨hS, ?_⟩
        obtain ⟨akvd, kvd, rfl, opd, nmd, agd, n64d, had, hkd⟩ := tm_open hd
        refine a_one 5 rfl (by kernel_rfl) (o_new tK rfl rfl rfl ?_)
        intro b4 w31 qb4 ew31 hb4
        have gS_b4 := Nat.le_trans hS.size (Nat.le_of_eq qb4.symm)
        replace hS := hS.then ew31
        have d_hc_h4 : ∀ x, G x → x ≠ b4 := fun x hx => by have := (hc.lt x hx).2; omega
        have ne_h3_h4 : b3 ≠ b4 := by have := h3.lt; omega
        have sw31 := Stp.add ew31 hlow hB (Nat.le_of_eq qb4.symm) hb4.lt
        have h4 : MB w.heap.size (Rw.Add (Rw.Add (Or2 M G) b3) b4) w31 b4 84 [.int .u8 0, .string ⟨#[]⟩, .string ⟨#[]⟩, .int .i64 0, .bool false, .int .u8 0, .string ⟨#[]⟩, .int .i64 0, .slice none 0 0, .slice none 0 0] := MB.mk' hb4 qb4 hB
        replace hc := hc.stp sw31 (fun x hx => ew31.block x (hc.lt x hx).2)
        replace h3 := h3.stp sw31 (ew31.block b3 h3.lt)
        replace hE := hE.trans sw31.below
        replace ht := Rep.stp ht sw31
        replace ha := Rep.stp ha sw31
        replace hk := hk.stp sw31
        replace h1 := h1.stp sw31
        replace hd := Rep.stp hd sw31
        replace had := Rep.stp had sw31
        replace hkd := hkd.stp sw31
        replace hsub := sw31.sb hsub
        replace hlow := sw31.low
        replace hB := sw31.z hB
        refine ⟨hS, ?_⟩
        refine a_barS Ext 6 rfl (by kernel_rfl) (by kernel_rfl) (o_st tK h3.box rfl rfl rfl rfl hc.one rfl rfl ?_)
        intro w32 hw32 qw32 bew32
        have uw32 : UpdB _ _ _ := ⟨qw32, bew32⟩
        have sw32 := uw32.stp h3.inM hlow h3.ge
        have frw32 := qw32.2
        replace hc := hc.stp sw32 (fun x hx => frw32 x (hc.lt x hx).2 (d_hc_h3 x hx))
        replace h4 := h4.stp sw32 (frw32 b4 h4.lt ne_h3_h4.symm)
        replace hE := hE.trans sw32.below
        replace ht := Rep.stp ht sw32
        replace ha := Rep.stp ha sw32
        replace hk := hk.stp sw32
        replace h1 := h1.stp sw32
        replace hd := Rep.stp hd sw32
        replace had := Rep.stp had sw32
        replace hkd := hkd.stp sw32
        replace hsub := sw32.sb hsub
        replace hlow := sw32.low
        replace hB := sw32.z hB
        replace hS : Ext w32 w32 := ext_refl _
        replace h3 : MB w.heap.size _ w32 b3 _ [.int .u8 t.op, .string t.name, .string t.arg, .int .i64 t.n, .bool t.has, .int .u8 t.ann.op, .string t.ann.name, .int .i64 t.ann.n, akvc, kvc] := ⟨hw32, h3.inM, h3.ge⟩
        have D_hk := hk
        have D_h1 := h1
        have D_h3 := h3.box
        have D_hkd := hkd
        have D_h4 := h4.box
        refine a_barS Ext 7 rfl (by kernel_rfl) (by kernel_rfl) (o_st tK h4.box rfl rfl rfl rfl (Rep.one hd) rfl rfl ?_)
        intro w33 hw33 qw33 bew33
        have uw33 : UpdB _ _ _ := ⟨qw33, bew33⟩
        have sw33 := uw33.stp h4.inM hlow h4.ge
        have frw33 := qw33.2
        replace hc := hc.stp sw33 (fun x hx => frw33 x (hc.lt x hx).2 (d_hc_h4 x hx))
        replace h3 := h3.stp sw33 (frw33 b3 h3.lt ne_h3_h4)
        replace hE := hE.trans sw33.below
        replace ht := Rep.stp ht sw33
        replace ha := Rep.stp ha sw33
        replace hk := hk.stp sw33
        replace h1 := h1.stp sw33
        replace hd := Rep.stp hd sw33
        replace had := Rep.stp had sw33
        replace hkd := hkd.stp sw33
        replace hsub := sw33.sb hsub
        replace hlow := sw33.low
        replace hB := sw33.z hB
        replace hS : Ext w33 w33 := ext_refl _
        replace h4 : MB w.heap.size _ w33 b4 _ [.int .u8 t.op, .string t.name, .string t.arg, .int .i64 t.n, .bool t.has, .int .u8 t.ann.op, .string t.ann.name, .int .i64 t.ann.n, akvd, kvd] := ⟨hw33, h4.inM, h4.ge⟩
        have D_hk := hk
        have D_h1 := h1
        have D_h3 := h3.box
        have D_hkd := hkd
        have D_h4 := h4.box
        refine a_end (by kernel_rfl) ?_
        refine x_seq (c_seq (q0 ?_))
        refine lC (o_lds tK (fun j v hv => h3.cell j v hv) rfl rfl rfl rfl rfl rfl ?_)
        refine lC (o_lds tK (fun j v hv => h1.cell j v hv) rfl rfl rfl rfl rfl rfl ?_)
        have hal7 := alikeM_spec t t NoM w33 _ _ (hc.rep (M := NoM) (fun _ _ h => h)) (Rep.wk ht (fun _ _ h => h.elim)) (low_noM _)
        rw [cl_true rfl] at hal7
        refine lC (o_call fo37 rfl rfl rfl (hal7) ?_)
        rintro _ w34 ⟨rfl, ew34⟩
        replace hc := hc.ext hlow hB ew34
        replace h3 := h3.ext hlow hB ew34
        replace h4 := h4.ext hlow hB ew34
        replace hE := ew34.bl hE hB
        replace ht := Rep.ext ht ew34
        replace ha := Rep.ext ha ew34
        replace hk := hk.ext ew34
        replace h1 := h1.ext ew34
        replace hd := Rep.ext hd ew34
        replace had := Rep.ext had ew34
        replace hkd := hkd.ext ew34
        replace hlow := hlow.ext ew34
        replace hB := ew34.z hB
        refine l_p 1 tK rfl (q1 (c_ifF rfl (c_skip (x_seq (q0 ?_)))))
        refine lC (o_lds tK (fun j v hv => h3.cell j v hv) rfl rfl rfl rfl rfl rfl ?_)
        refine lC (o_call fo50 rfl rfl rfl (spoil_spec t (Rw.Add (Rw.Add (Or2 M G) b3) b4) _ w.heap.size _ G hc (fun c hc => by first | exact .inr hc | exact .inl (.inr hc) | exact .inl (.inl (.inr hc))) hlow hB) ?_)
        rintro _ w35 ⟨rfl, sw35, kw35⟩
        have frw35 : ∀ x, x < w34.heap.size → ¬ G x → w35.heap[x]? = w34.heap[x]? := fun x hx hg => kw35.blk x ⟨hx, hg⟩
        replace h3 := h3.stp sw35 (frw35 b3 h3.lt (fun g => d_hc_h3 _ g rfl))
        replace h4 := h4.stp sw35 (frw35 b4 h4.lt (fun g => d_hc_h4 _ g rfl))
        replace hE := hE.trans sw35.below
        replace ht := Rep.stp ht sw35
        replace ha := Rep.stp ha sw35
        replace hk := hk.stp sw35
        replace h1 := h1.stp sw35
        replace hd := Rep.stp hd sw35
        replace had := Rep.stp had sw35
        replace hkd := hkd.stp sw35
        replace hsub := sw35.sb hsub
        replace hlow := sw35.low
        replace hB := sw35.z hB
        refine q1 (q0 ?_)
        refine lC (o_lds tK (fun j v hv => h1.cell j v hv) rfl rfl rfl rfl rfl rfl ?_)
        have l_h3 := h3.lt
        have l_h4 := h4.lt
        refine lC (o_call fo51 rfl rfl rfl (node0_own t _ _ _ ht hlow hz hns) ?_)
        rintro _ w36 ⟨⟨vx, rfl, hx⟩, ew36⟩
        replace hx := hx.ge hB
        have hGX : ∀ c, Plus NoM w35 w36 c → w35.heap.size ≤ c ∧ c < w36.heap.size := fun c h => h.elim (fun h => h.elim) id
        generalize Plus NoM w35 w36 = GX at hx hGX
        have sw36 := (Stp.ext ew36 hlow hB).more hGX
        replace h3 := h3.stp sw36 (ew36.block b3 h3.lt)
        replace h4 := h4.stp sw36 (ew36.block b4 h4.lt)
        replace hE := hE.trans sw36.below
        replace ht := Rep.stp ht sw36
        replace ha := Rep.stp ha sw36
        replace hk := hk.stp sw36
        replace h1 := h1.stp sw36
        replace hd := Rep.stp hd sw36
        replace had := Rep.stp had sw36
        replace hkd := hkd.stp sw36
        replace hsub := sw36.sb hsub
        replace hlow := sw36.low
        replace hB := sw36.z hB
        have d_hx_h3 : ∀ x, GX x → x ≠ b3 := fun x hx => by have := (hGX x hx).1; omega
        have d_hx_h4 : ∀ x, GX x → x ≠ b4 := fun x hx => by have := (hGX x hx).1; omega
        obtain ⟨akvx, kvx, usx, Hx, FAx, rfl, hoax, hklx, hrx, hOx, hHx, hAx⟩ := otm_open hx
        refine l_p 3 tK rfl ?_
        refine lC (o_new tK rfl rfl rfl ?_)
        intro b5 w37 qb5 ew37 hb5
        have nb5 := nM_of hlow qb5
        refine lC (o_st tK hb5 rfl rfl rfl rfl hx.one rfl rfl ?_)
        intro w38 h5 uw38 bew38
        have ew38 : Ext w36 w38 := ew37.trans (bew38 _ (Nat.le_of_eq qb5.symm))
        replace h3 := h3.ext hlow hB ew38
        replace h4 := h4.ext hlow hB ew38
        replace hx := hx.ext hlow hB ew38
        replace hE := ew38.bl hE hB
        replace ht := Rep.ext ht ew38
        replace ha := Rep.ext ha ew38
        replace hk := hk.ext ew38
        replace h1 := h1.ext ew38
        replace hd := Rep.ext hd ew38
        replace had := Rep.ext had ew38
        replace hkd := hkd.ext ew38
        replace hlow := hlow.ext ew38
        replace hB := ew38.z hB
        replace h5 : Box w38 b5 84 [.int .u8 t.op, .string t.name, .string t.arg, .int .i64 t.n, .bool t.has, .int .u8 t.ann.op, .string t.ann.name, .int .i64 t.ann.n, akvx, kvx] := h5
        replace h5 := h5.at nb5
        refine l_p 1 tK rfl (q1 (q0 ?_))
        refine lC (o_lds tK (fun j v hv => h5.cell j v hv) rfl rfl rfl rfl rfl rfl ?_)
        refine lC (o_call fo50 rfl rfl rfl (spoil_spec t (Or2 (Rw.Add (Rw.Add (Or2 M G) b3) b4) GX) _ w.heap.size _ GX hx (fun c hc => by first | exact .inr hc | exact .inl (.inr hc) | exact .inl (.inl (.inr hc))) hlow hB) ?_)
        rintro _ w39 ⟨rfl, sw39, kw39⟩
        have frw39 : ∀ x, x < w38.heap.size → ¬ GX x → w39.heap[x]? = w38.heap[x]? := fun x hx hg => kw39.blk x ⟨hx, hg⟩
        replace h3 := h3.stp sw39 (frw39 b3 h3.lt (fun g => d_hx_h3 _ g rfl))
        replace h4 := h4.stp sw39 (frw39 b4 h4.lt (fun g => d_hx_h4 _ g rfl))
        replace hE := hE.trans sw39.below
        replace ht := Rep.stp ht sw39
        replace ha := Rep.stp ha sw39
        replace hk := hk.stp sw39
        replace h1 := h1.stp sw39
        replace hd := Rep.stp hd sw39
        replace had := Rep.stp had sw39
        replace hkd := hkd.stp sw39
        replace h5 := h5.stp sw39
        replace hsub := sw39.sb hsub
        replace hlow := sw39.low
        replace hB := sw39.z hB
        refine q1 (q0 ?_)
        refine lC (o_lds tK (fun j v hv => h4.cell j v hv) rfl rfl rfl rfl rfl rfl ?_)
        refine lC (o_lds tK (fun j v hv => h1.cell j v hv) rfl rfl rfl rfl rfl rfl ?_)
        have hal8 := alikeM_spec t t NoM w39 _ _ (Rep.wk hd (fun _ _ h => h.elim)) (Rep.wk ht (fun _ _ h => h.elim)) (low_noM _)
        rw [cl_true rfl] at hal8
        refine lC (o_call fo37 rfl rfl rfl (hal8) ?_)
        rintro _ w40 ⟨rfl, ew40⟩
        replace h3 := h3.ext hlow hB ew40
        replace h4 := h4.ext hlow hB ew40
        replace hE := ew40.bl hE hB
        replace ht := Rep.ext ht ew40
        replace ha := Rep.ext ha ew40
        replace hk := hk.ext ew40
        replace h1 := h1.ext ew40
        replace hd := Rep.ext hd ew40
        replace had := Rep.ext had ew40
        replace hkd := hkd.ext ew40
        replace h5 := h5.ext ew40
        replace hlow := hlow.ext ew40
        replace hB := ew40.z hB
        refine l_p 1 tK rfl (q1 (c_ret (x_ret1 rfl rfl ?_)))
        exact ⟨rfl, hE⟩
      refine o_new tK rfl rfl rfl ?_
      intro b4 w41 qb4 ew41 hb4
      have gS_b4 := Nat.le_trans hS.size (Nat.le_of_eq qb4.symm)
      replace hS := hS.then ew41
      have d_hc_h4 : ∀ x, G x → x ≠ b4 := fun x hx => by have := (hc.lt x hx).2; omega
      have ne_h3_h4 : b3 ≠ b4 := by have := h3.lt; omega
      have sw41 := Stp.add ew41 hlow hB (Nat.le_of_eq qb4.symm) hb4.lt
      have h4 : MB w.heap.size (Rw.Add (Rw.Add (Or2 M G) b3) b4) w41 b4 84 [.int .u8 0, .string ⟨#[]⟩, .string ⟨#[]⟩, .int .i64 0, .bool false, .int .u8 0, .string ⟨#[]⟩, .int .i64 0, .slice none 0 0, .slice none 0 0] := MB.mk' hb4 qb4 hB
      replace hc := hc.stp sw41 (fun x hx => ew41.block x (hc.lt x hx).2)
      replace h3 := h3.stp sw41 (ew41.block b3 h3.lt)
      replace hE := hE.trans sw41.below
      replace ht := Rep.stp ht sw41
      replace ha := Rep.stp ha sw41
      replace hk := hk.stp sw41
      replace h1 := h1.stp sw41
      replace hsub := sw41.sb hsub
      replace hlow := sw41.low
      replace hB := sw41.z hB
      refine ⟨hS, ?_⟩
      refine a_one 3 rfl (by kernel_rfl) (o_call fo49 rfl rfl rfl (copyM_spec t _ _ _ ht hlow hz hns) ?_)
      rintro vhd w42 ⟨hd, ew42⟩
      replace hS := hS.then ew42
      replace hc := hc.ext hlow hB ew42
      replace h3 := h3.ext hlow hB ew42
      replace h4 := h4.ext hlow hB ew42
      replace hE := ew42.bl hE hB
      replace ht := Rep.ext ht ew42
      replace ha := Rep.ext ha ew42
      replace hk := hk.ext ew42
      replace h1 := h1.ext ew42
      replace hlow := hlow.ext ew42
      replace hB := ew42.z hB
      refine ⟨hS, ?_⟩
      obtain ⟨akvd, kvd, rfl, opd, nmd, agd, n64d, had, hkd⟩ := tm_open hd
      refine a_barS Ext 6 rfl (by kernel_rfl) (by kernel_rfl) (o_st tK h3.box rfl rfl rfl rfl hc.one rfl rfl ?_)
      intro w43 hw43 qw43 bew43
      have uw43 : UpdB _ _ _ := ⟨qw43, bew43⟩
      have sw43 := uw43.stp h3.inM hlow h3.ge
      have frw43 := qw43.2
      replace hc := hc.stp sw43 (fun x hx => frw43 x (hc.lt x hx).2 (d_hc_h3 x hx))
      replace h4 := h4.stp sw43 (frw43 b4 h4.lt ne_h3_h4.symm)
      replace hE := hE.trans sw43.below
      replace ht := Rep.stp ht sw43
      replace ha := Rep.stp ha sw43
      replace hk := hk.stp sw43
      replace h1 := h1.stp sw43
      replace hd := Rep.stp hd sw43
      replace had := Rep.stp had sw43
      replace hkd := hkd.stp sw43
      replace hsub := sw43.sb hsub
      replace hlow := sw43.low
      replace hB := sw43.z hB
      replace hS : Ext w43 w43 := ext_refl _
      replace h3 : MB w.heap.size _ w43 b3 _ [.int .u8 t.op, .string t.name, .string t.arg, .int .i64 t.n, .bool t.has, .int .u8 t.ann.op, .string t.ann.name, .int .i64 t.ann.n, akvc, kvc] := ⟨hw43, h3.inM, h3.ge⟩
      have D_hk := hk
      have D_h1 := h1
      have D_h3 := h3.box
      have D_h4 := h4.box
      have D_hkd := hkd
      refine a_barS Ext 7 rfl (by kernel_rfl) (by kernel_rfl) (o_st tK h4.box rfl rfl rfl rfl (Rep.one hd) rfl rfl ?_)
      intro w44 hw44 qw44 bew44
      have uw44 : UpdB _ _ _ := ⟨qw44, bew44⟩
      have sw44 := uw44.stp h4.inM hlow h4.ge
      have frw44 := qw44.2
      replace hc := hc.stp sw44 (fun x hx => frw44 x (hc.lt x hx).2 (d_hc_h4 x hx))
      replace h3 := h3.stp sw44 (frw44 b3 h3.lt ne_h3_h4)
      replace hE := hE.trans sw44.below
      replace ht := Rep.stp ht sw44
      replace ha := Rep.stp ha sw44
      replace hk := hk.stp sw44
      replace h1 := h1.stp sw44
      replace hd := Rep.stp hd sw44
      replace had := Rep.stp had sw44
      replace hkd := hkd.stp sw44
      replace hsub := sw44.sb hsub
      replace hlow := sw44.low
      replace hB := sw44.z hB
      replace hS : Ext w44 w44 := ext_refl _
      replace h4 : MB w.heap.size _ w44 b4 _ [.int .u8 t.op, .string t.name, .string t.arg, .int .i64 t.n, .bool t.has, .int .u8 t.ann.op, .string t.ann.name, .int .i64 t.ann.n, akvd, kvd] := ⟨hw44, h4.inM, h4.ge⟩
      have D_hk := hk
      have D_h1 := h1
      have D_h3 := h3.box
      have D_h4 := h4.box
      have D_hkd := hkd
      refine a_end (by kernel_rfl) ?_
      refine x_seq (c_seq (q0 ?_))
      refine lC (o_lds tK (fun j v hv => h3.cell j v hv) rfl rfl rfl rfl rfl rfl ?_)
      refine lC (o_lds tK (fun j v hv => h1.cell j v hv) rfl rfl rfl rfl rfl rfl ?_)
      have hal9 := alikeM_spec t t NoM w44 _ _ (hc.rep (M := NoM) (fun _ _ h => h)) (Rep.wk ht (fun _ _ h => h.elim)) (low_noM _)
      rw [cl_true rfl] at hal9
      refine lC (o_call fo37 rfl rfl rfl (hal9) ?_)
      rintro _ w45 ⟨rfl, ew45⟩
      replace hc := hc.ext hlow hB ew45
      replace h3 := h3.ext hlow hB ew45
      replace h4 := h4.ext hlow hB ew45
      replace hE := ew45.bl hE hB
      replace ht := Rep.ext ht ew45
      replace ha := Rep.ext ha ew45
      replace hk := hk.ext ew45
      replace h1 := h1.ext ew45
      replace hd := Rep.ext hd ew45
      replace had := Rep.ext had ew45
      replace hkd := hkd.ext ew45
      replace hlow := hlow.ext ew45
      replace hB := ew45.z hB
      refine l_p 1 tK rfl (q1 (c_ifF rfl (c_skip (x_seq (q0 ?_)))))
      refine lC (o_lds tK (fun j v hv => h3.cell j v hv) rfl rfl rfl rfl rfl rfl ?_)
      refine lC (o_call fo50 rfl rfl rfl (spoil_spec t (Rw.Add (Rw.Add (Or2 M G) b3) b4) _ w.heap.size _ G hc (fun c hc => by first | exact .inr hc | exact .inl (.inr hc) | exact .inl (.inl (.inr hc))) hlow hB) ?_)
      rintro _ w46 ⟨rfl, sw46, kw46⟩
      have frw46 : ∀ x, x < w45.heap.size → ¬ G x → w46.heap[x]? = w45.heap[x]? := fun x hx hg => kw46.blk x ⟨hx, hg⟩
      replace h3 := h3.stp sw46 (frw46 b3 h3.lt (fun g => d_hc_h3 _ g rfl))
      replace h4 := h4.stp sw46 (frw46 b4 h4.lt (fun g => d_hc_h4 _ g rfl))
      replace hE := hE.trans sw46.below
      replace ht := Rep.stp ht sw46
      replace ha := Rep.stp ha sw46
      replace hk := hk.stp sw46
      replace h1 := h1.stp sw46
      replace hd := Rep.stp hd sw46
      replace had := Rep.stp had sw46
      replace hkd := hkd.stp sw46
      replace hsub := sw46.sb hsub
      replace hlow := sw46.low
      replace hB := sw46.z hB
      refine q1 (q0 ?_)
      refine lC (o_lds tK (fun j v hv => h1.cell j v hv) rfl rfl rfl rfl rfl rfl ?_)
      have l_h3 := h3.lt
      have l_h4 := h4.lt
      refine lC (o_call fo51 rfl rfl rfl (node0_own t _ _ _ ht hlow hz hns) ?_)
      rintro _ w47 ⟨⟨vx, rfl, hx⟩, ew47⟩
      replace hx := hx.ge hB
      have hGX : ∀ c, Plus NoM w46 w47 c → w46.heap.size ≤ c ∧ c < w47.heap.size := fun c h => h.elim (fun h => h.elim) id
      generalize Plus NoM w46 w47 = GX at hx hGX
      have sw47 := (Stp.ext ew47 hlow hB).more hGX
      replace h3 := h3.stp sw47 (ew47.block b3 h3.lt)
      replace h4 := h4.stp sw47 (ew47.block b4 h4.lt)
      replace hE := hE.trans sw47.below
      replace ht := Rep.stp ht sw47
      replace ha := Rep.stp ha sw47
      replace hk := hk.stp sw47
      replace h1 := h1.stp sw47
      replace hd := Rep.stp hd sw47
      replace had := Rep.stp had sw47
      replace hkd := hkd.stp sw47
      replace hsub := sw47.sb hsub
      replace hlow := sw47.low
      replace hB := sw47.z hB
      have d_hx_h3 : ∀ x, GX x → x ≠ b3 := fun x hx => by have := (hGX x hx).1; omega
      have d_hx_h4 : ∀ x, GX x → x ≠ b4 := fun x hx => by have := (hGX x hx).1; omega
      obtain ⟨akvx, kvx, usx, Hx, FAx, rfl, hoax, hklx, hrx, hOx, hHx, hAx⟩ := otm_open hx
      refine l_p 3 tK rfl ?_
      refine lC (o_new tK rfl rfl rfl ?_)
      intro b5 w48 qb5 ew48 hb5
      have nb5 := nM_of hlow qb5
      refine lC (o_st tK hb5 rfl rfl rfl rfl hx.one rfl rfl ?_)
      intro w49 h5 uw49 bew49
      have ew49 : Ext w47 w49 := ew48.trans (bew49 _ (Nat.le_of_eq qb5.symm))
      replace h3 := h3.ext hlow hB ew49
      replace h4 := h4.ext hlow hB ew49
      replace hx := hx.ext hlow hB ew49
      replace hE := ew49.bl hE hB
      replace ht := Rep.ext ht ew49
      replace ha := Rep.ext ha ew49
      replace hk := hk.ext ew49
      replace h1 := h1.ext ew49
      replace hd := Rep.ext hd ew49
      replace had := Rep.ext had ew49
      replace hkd := hkd.ext ew49
      replace hlow := hlow.ext ew49
      replace hB := ew49.z hB
      replace h5 : Box w49 b5 84 [.int .u8 t.op, .string t.name, .string t.arg, .int .i64 t.n, .bool t.has, .int .u8 t.ann.op, .string t.ann.name, .int .i64 t.ann.n, akvx, kvx] := h5
      replace h5 := h5.at nb5
      refine l_p 1 tK rfl (q1 (q0 ?_))
      refine lC (o_lds tK (fun j v hv => h5.cell j v hv) rfl rfl rfl rfl rfl rfl ?_)
      refine lC (o_call fo50 rfl rfl rfl (spoil_spec t (Or2 (Rw.Add (Rw.Add (Or2 M G) b3) b4) GX) _ w.heap.size _ GX hx (fun c hc => by first | exact .inr hc | exact .inl (.inr hc) | exact .inl (.inl (.inr hc))) hlow hB) ?_)
      rintro _ w50 ⟨rfl, sw50, kw50⟩
      have frw50 : ∀ x, x < w49.heap.size → ¬ GX x → w50.heap[x]? = w49.heap[x]? := fun x hx hg => kw50.blk x ⟨hx, hg⟩
      replace h3 := h3.stp sw50 (frw50 b3 h3.lt (fun g => d_hx_h3 _ g rfl))
      replace h4 := h4.stp sw50 (frw50 b4 h4.lt (fun g => d_hx_h4 _ g rfl))
      replace hE := hE.trans sw50.below
      replace ht := Rep.stp ht sw50
      replace ha := Rep.stp ha sw50
      replace hk := hk.stp sw50
      replace h1 := h1.stp sw50
      replace hd := Rep.stp hd sw50
      replace had := Rep.stp had sw50
      replace hkd := hkd.stp sw50
      replace h5 := h5.stp sw50
      replace hsub := sw50.sb hsub
      replace hlow := sw50.low
      replace hB := sw50.z hB
      refine q1 (q0 ?_)
      refine lC (o_lds tK (fun j v hv => h4.cell j v hv) rfl rfl rfl rfl rfl rfl ?_)
      refine lC (o_lds tK (fun j v hv => h1.cell j v hv) rfl rfl rfl rfl rfl rfl ?_)
      have hal10 := alikeM_spec t t NoM w50 _ _ (Rep.wk hd (fun _ _ h => h.elim)) (Rep.wk ht (fun _ _ h => h.elim)) (low_noM _)
      rw [cl_true rfl] at hal10
      refine lC (o_call fo37 rfl rfl rfl (hal10) ?_)
      rintro _ w51 ⟨rfl, ew51⟩
      replace h3 := h3.ext hlow hB ew51
      replace h4 := h4.ext hlow hB ew51
      replace hE := ew51.bl hE hB
      replace ht := Rep.ext ht ew51
      replace ha := Rep.ext ha ew51
      replace hk := hk.ext ew51
      replace h1 := h1.ext ew51
      replace hd := Rep.ext hd ew51
      replace had := Rep.ext had ew51
      replace hkd := hkd.ext ew51
      replace h5 := h5.ext ew51
      replace hlow := hlow.ext ew51
      replace hB := ew51.z hB
      refine l_p 1 tK rfl (q1 (c_ret (x_ret1 rfl rfl ?_)))
      exact ⟨rfl, hE⟩
    refine o_new tK rfl rfl rfl ?_
    intro b4 w52 qb4 ew52 hb4
    have gS_b4 := Nat.le_trans hS.size (Nat.le_of_eq qb4.symm)
    replace hS := hS.then ew52
    have d_hc_h4 : ∀ x, G x → x ≠ b4 := fun x hx => by have := (hc.lt x hx).2; omega
    have sw52 := Stp.add ew52 hlow hB (Nat.le_of_eq qb4.symm) hb4.lt
    have h4 : MB w.heap.size (Rw.Add (Or2 M G) b4) w52 b4 84 [.int .u8 0, .string ⟨#[]⟩, .string ⟨#[]⟩, .int .i64 0, .bool false, .int .u8 0, .string ⟨#[]⟩, .int .i64 0, .slice none 0 0, .slice none 0 0] := MB.mk' hb4 qb4 hB
    replace hc := hc.stp sw52 (fun x hx => ew52.block x (hc.lt x hx).2)
    replace hE := hE.trans sw52.below
    replace ht := Rep.stp ht sw52
    replace ha := Rep.stp ha sw52
    replace hk := hk.stp sw52
    replace h1 := h1.stp sw52
    replace hsub := sw52.sb hsub
    replace hlow := sw52.low
    replace hB := sw52.z hB
    refine ⟨hS, ?_⟩
    refine a_all [3, 4] (by kernel_rfl) rfl (all_cons (i := 3) rfl ?_ (all_cons (i := 4) rfl ?_ all_nil))
    · refine o_call fo49 rfl rfl rfl (copyM_spec t _ _ _ ht hlow hz hns) ?_
      rintro vhd w53 ⟨hd, ew53⟩
      replace hS := hS.then ew53
      replace hc := hc.ext hlow hB ew53
      replace h4 := h4.ext hlow hB ew53
      replace hE := ew53.bl hE hB
      replace ht := Rep.ext ht ew53
      replace ha := Rep.ext ha ew53
      replace hk := hk.ext ew53
      replace h1 := h1.ext ew53
      replace hlow := hlow.ext ew53
      replace hB := ew53.z hB
      refine ⟨hS, ?_⟩
      obtain ⟨akvd, kvd, rfl, opd, nmd, agd, n64d, had, hkd⟩ := tm_open hd
      refine a_one 4 rfl (by kernel_rfl) (o_new tK rfl rfl rfl ?_)
      intro b3 w54 qb3 ew54 hb3
      have gS_b3 := Nat.le_trans hS.size (Nat.le_of_eq qb3.symm)
      replace hS := hS.then ew54
      have d_hc_h3 : ∀ x, G x → x ≠ b3 := fun x hx => by have := (hc.lt x hx).2; omega
      have ne_h4_h3 : b4 ≠ b3 := by have := h4.lt; omega
      have sw54 := Stp.add ew54 hlow hB (Nat.le_of_eq qb3.symm) hb3.lt
      have h3 : MB w.heap.size (Rw.Add (Rw.Add (Or2 M G) b4) b3) w54 b3 84 [.int .u8 0, .string ⟨#[]⟩, .string ⟨#[]⟩, .int .i64 0, .bool false, .int .u8 0, .string ⟨#[]⟩, .int .i64 0, .slice none 0 0, .slice none 0 0] := MB.mk' hb3 qb3 hB
      replace hc := hc.stp sw54 (fun x hx => ew54.block x (hc.lt x hx).2)
      replace h4 := h4.stp sw54 (ew54.block b4 h4.lt)
      replace hE := hE.trans sw54.below
      replace ht := Rep.stp ht sw54
      replace ha := Rep.stp ha sw54
      replace hk := hk.stp sw54
      replace h1 := h1.stp sw54
      replace hd := Rep.stp hd sw54
      replace had := Rep.stp had sw54
      replace hkd := hkd.stp sw54
      replace hsub := sw54.sb hsub
      replace hlow := sw54.low
      replace hB := sw54.z hB
      refine ⟨hS, ?_⟩
      refine a_barS Ext 6 rfl (by kernel_rfl) (by kernel_rfl) (o_st tK h3.box rfl rfl rfl rfl hc.one rfl rfl ?_)
      intro w55 hw55 qw55 bew55
      have uw55 : UpdB _ _ _ := ⟨qw55, bew55⟩
      have sw55 := uw55.stp h3.inM hlow h3.ge
      have frw55 := qw55.2
      replace hc := hc.stp sw55 (fun x hx => frw55 x (hc.lt x hx).2 (d_hc_h3 x hx))
      replace h4 := h4.stp sw55 (frw55 b4 h4.lt ne_h4_h3)
      replace hE := hE.trans sw55.below
      replace ht := Rep.stp ht sw55
      replace ha := Rep.stp ha sw55
      replace hk := hk.stp sw55
      replace h1 := h1.stp sw55
      replace hd := Rep.stp hd sw55
      replace had := Rep.stp had sw55
      replace hkd := hkd.stp sw55
      replace hsub := sw55.sb hsub
      replace hlow := sw55.low
      replace hB := sw55.z hB
      replace hS : Ext w55 w55 := ext_refl _
      replace h3 : MB w.heap.size _ w55 b3 _ [.int .u8 t.op, .string t.name, .string t.arg, .int .i64 t.n, .bool t.has, .int .u8 t.ann.op, .string t.ann.name, .int .i64 t.ann.n, akvc, kvc] := ⟨hw55, h3.inM, h3.ge⟩
      have D_hk := hk
      have D_h1 := h1
      have D_h4 := h4.box
      have D_hkd := hkd
      have D_h3 := h3.box
      refine a_barS Ext 7 rfl (by kernel_rfl) (by kernel_rfl) (o_st tK h4.box rfl rfl rfl rfl (Rep.one hd) rfl rfl ?_)
      intro w56 hw56 qw56 bew56
      have uw56 : UpdB _ _ _ := ⟨qw56, bew56⟩
      have sw56 := uw56.stp h4.inM hlow h4.ge
      have frw56 := qw56.2
      replace hc := hc.stp sw56 (fun x hx => frw56 x (hc.lt x hx).2 (d_hc_h4 x hx))
      replace h3 := h3.stp sw56 (frw56 b3 h3.lt ne_h4_h3.symm)
      replace hE := hE.trans sw56.below
      replace ht := Rep.stp ht sw56
      replace ha := Rep.stp ha sw56
      replace hk := hk.stp sw56
      replace h1 := h1.stp sw56
      replace hd := Rep.stp hd sw56
      replace had := Rep.stp had sw56
      replace hkd := hkd.stp sw56
      replace hsub := sw56.sb hsub
      replace hlow := sw56.low
      replace hB := sw56.z hB
      replace hS : Ext w56 w56 := ext_refl _
      replace h4 : MB w.heap.size _ w56 b4 _ [.int .u8 t.op, .string t.name, .string t.arg, .int .i64 t.n, .bool t.has, .int .u8 t.ann.op, .string t.ann.name, .int .i64 t.ann.n, akvd, kvd] := ⟨hw56, h4.inM, h4.ge⟩
      have D_hk := hk
      have D_h1 := h1
      have D_h4 := h4.box
      have D_hkd := hkd
      have D_h3 := h3.box
      refine a_end (by kernel_rfl) ?_
      refine x_seq (c_seq (q0 ?_))
      refine lC (o_lds tK (fun j v hv => h3.cell j v hv) rfl rfl rfl rfl rfl rfl ?_)
      refine lC (o_lds tK (fun j v hv => h1.cell j v hv) rfl rfl rfl rfl rfl rfl ?_)
      have hal11 := alikeM_spec t t NoM w56 _ _ (hc.rep (M := NoM) (fun _ _ h => h)) (Rep.wk ht (fun _ _ h => h.elim)) (low_noM _)
      rw [cl_true rfl] at hal11
      refine lC (o_call fo37 rfl rfl rfl (hal11) ?_)
      rintro _ w57 ⟨rfl, ew57⟩
      replace hc := hc.ext hlow hB ew57
      replace h4 := h4.ext hlow hB ew57
      replace h3 := h3.ext hlow hB ew57
      replace hE := ew57.bl hE hB
      replace ht := Rep.ext ht ew57
      replace ha := Rep.ext ha ew57
      replace hk := hk.ext ew57
      replace h1 := h1.ext ew57
      replace hd := Rep.ext hd ew57
      replace had := Rep.ext had ew57
      replace hkd := hkd.ext ew57
      replace hlow := hlow.ext ew57
      replace hB := ew57.z hB
      refine l_p 1 tK rfl (q1 (c_ifF rfl (c_skip (x_seq (q0 ?_)))))
      refine lC (o_lds tK (fun j v hv => h3.cell j v hv) rfl rfl rfl rfl rfl rfl ?_)
      refine lC (o_call fo50 rfl rfl rfl (spoil_spec t (Rw.Add (Rw.Add (Or2 M G) b4) b3) _ w.heap.size _ G hc (fun c hc => by first | exact .inr hc | exact .inl (.inr hc) | exact .inl (.inl (.inr hc))) hlow hB) ?_)
      rintro _ w58 ⟨rfl, sw58, kw58⟩
      have frw58 : ∀ x, x < w57.heap.size → ¬ G x → w58.heap[x]? = w57.heap[x]? := fun x hx hg => kw58.blk x ⟨hx, hg⟩
      replace h4 := h4.stp sw58 (frw58 b4 h4.lt (fun g => d_hc_h4 _ g rfl))
      replace h3 := h3.stp sw58 (frw58 b3 h3.lt (fun g => d_hc_h3 _ g rfl))
      replace hE := hE.trans sw58.below
      replace ht := Rep.stp ht sw58
      replace ha := Rep.stp ha sw58
      replace hk := hk.stp sw58
      replace h1 := h1.stp sw58
      replace hd := Rep.stp hd sw58
      replace had := Rep.stp had sw58
      replace hkd := hkd.stp sw58
      replace hsub := sw58.sb hsub
      replace hlow := sw58.low
      replace hB := sw58.z hB
      refine q1 (q0 ?_)
      refine lC (o_lds tK (fun j v hv => h1.cell j v hv) rfl rfl rfl rfl rfl rfl ?_)
      have l_h4 := h4.lt
      have l_h3 := h3.lt
      refine lC (o_call fo51 rfl rfl rfl (node0_own t _ _ _ ht hlow hz hns) ?_)
      rintro _ w59 ⟨⟨vx, rfl, hx⟩, ew59⟩
      replace hx := hx.ge hB
      have hGX : ∀ c, Plus NoM w58 w59 c → w58.heap.size ≤ c ∧ c < w59.heap.size := fun c h => h.elim (fun h => h.elim) id
      generalize Plus NoM w58 w59 = GX at hx hGX
      have sw59 := (Stp.ext ew59 hlow hB).more hGX
      replace h4 := h4.stp sw59 (ew59.block b4 h4.lt)
      replace h3 := h3.stp sw59 (ew59.block b3 h3.lt)
      replace hE := hE.trans sw59.below
      replace ht := Rep.stp ht sw59
      replace ha := Rep.stp ha sw59
      replace hk := hk.stp sw59
      replace h1 := h1.stp sw59
      replace hd := Rep.stp hd sw59
      replace had := Rep.stp had sw59
      replace hkd := hkd.stp sw59
      replace hsub := sw59.sb hsub
      replace hlow := sw59.low
      replace hB := sw59.z hB
      have d_hx_h4 : ∀ x, GX x → x ≠ b4 := fun x hx => by have := (hGX x hx).1; omega
      have d_hx_h3 : ∀ x, GX x → x ≠ b3 := fun x hx => by have := (hGX x hx).1; omega
      obtain ⟨akvx, kvx, usx, Hx, FAx, rfl, hoax, hklx, hrx, hOx, hHx, hAx⟩ := otm_open hx
      refine l_p 3 tK rfl ?_
      refine lC (o_new tK rfl rfl rfl ?_)
      intro b5 w60 qb5 ew60 hb5
      have nb5 := nM_of hlow qb5
      refine lC (o_st tK hb5 rfl rfl rfl rfl hx.one rfl rfl ?_)
      intro w61 h5 uw61 bew61
      have ew61 : Ext w59 w61 := ew60.trans (bew61 _ (Nat.le_of_eq qb5.symm))
      replace h4 := h4.ext hlow hB ew61
      replace h3 := h3.ext hlow hB ew61
      replace hx := hx.ext hlow hB ew61
      replace hE := ew61.bl hE hB
      replace ht := Rep.ext ht ew61
      replace ha := Rep.ext ha ew61
      replace hk := hk.ext ew61
      replace h1 := h1.ext ew61
      replace hd := Rep.ext hd ew61
      replace had := Rep.ext had ew61
      replace hkd := hkd.ext ew61
      replace hlow := hlow.ext ew61
      replace hB := ew61.z hB
      replace h5 : Box w61 b5 84 [.int .u8 t.op, .string t.name, .string t.arg, .int .i64 t.n, .bool t.has, .int .u8 t.ann.op, .string t.ann.name, .int .i64 t.ann.n, akvx, kvx] := h5
      replace h5 := h5.at nb5
      refine l_p 1 tK rfl (q1 (q0 ?_))
      refine lC (o_lds tK (fun j v hv => h5.cell j v hv) rfl rfl rfl rfl rfl rfl ?_)
      refine lC (o_call fo50 rfl rfl rfl (spoil_spec t (Or2 (Rw.Add (Rw.Add (Or2 M G) b4) b3) GX) _ w.heap.size _ GX hx (fun c hc => by first | exact .inr hc | exact .inl (.inr hc) | exact .inl (.inl (.inr hc))) hlow hB) ?_)
      rintro _ w62 ⟨rfl, sw62, kw62⟩
      have frw62 : ∀ x, x < w61.heap.size → ¬ GX x → w62.heap[x]? = w61.heap[x]? := fun x hx hg => kw62.blk x ⟨hx, hg⟩
      replace h4 := h4.stp sw62 (frw62 b4 h4.lt (fun g => d_hx_h4 _ g rfl))
      replace h3 := h3.stp sw62 (frw62 b3 h3.lt (fun g => d_hx_h3 _ g rfl))
      replace hE := hE.trans sw62.below
      replace ht := Rep.stp ht sw62
      replace ha := Rep.stp ha sw62
      replace hk := hk.stp sw62
      replace h1 := h1.stp sw62
      replace hd := Rep.stp hd sw62
      replace had := Rep.stp had sw62
      replace hkd := hkd.stp sw62
      replace h5 := h5.stp sw62
      replace hsub := sw62.sb hsub
      replace hlow := sw62.low
      replace hB := sw62.z hB
      refine q1 (q0 ?_)
      refine lC (o_lds tK (fun j v hv => h4.cell j v hv) rfl rfl rfl rfl rfl rfl ?_)
      refine lC (o_lds tK (fun j v hv => h1.cell j v hv) rfl rfl rfl rfl rfl rfl ?_)
      have hal12 := alikeM_spec t t NoM w62 _ _ (Rep.wk hd (fun _ _ h => h.elim)) (Rep.wk ht (fun _ _ h => h.elim)) (low_noM _)
      rw [cl_true rfl] at hal12
      refine lC (o_call fo37 rfl rfl rfl (hal12) ?_)
      rintro _ w63 ⟨rfl, ew63⟩
      replace h4 := h4.ext hlow hB ew63
      replace h3 := h3.ext hlow hB ew63
      replace hE := ew63.bl hE hB
      replace ht := Rep.ext ht ew63
      replace ha := Rep.ext ha ew63
      replace hk := hk.ext ew63
      replace h1 := h1.ext ew63
      replace hd := Rep.ext hd ew63
      replace had := Rep.ext had ew63
      replace hkd := hkd.ext ew63
      replace h5 := h5.ext ew63
      replace hlow := hlow.ext ew63
      replace hB := ew63.z hB
      refine l_p 1 tK rfl (q1 (c_ret (x_ret1 rfl rfl ?_)))
      exact ⟨rfl, hE⟩
    refine o_new tK rfl rfl rfl ?_
    intro b3 w64 qb3 ew64 hb3
    have gS_b3 := Nat.le_trans hS.size (Nat.le_of_eq qb3.symm)
    replace hS := hS.then ew64
    have d_hc_h3 : ∀ x, G x → x ≠ b3 := fun x hx => by have := (hc.lt x hx).2; omega
    have ne_h4_h3 : b4 ≠ b3 := by have := h4.lt; omega
    have sw64 := Stp.add ew64 hlow hB (Nat.le_of_eq qb3.symm) hb3.lt
    have h3 : MB w.heap.size (Rw.Add (Rw.Add (Or2 M G) b4) b3) w64 b3 84 [.int .u8 0, .string ⟨#[]⟩, .string ⟨#[]⟩, .int .i64 0, .bool false, .int .u8 0, .string ⟨#[]⟩, .int .i64 0, .slice none 0 0, .slice none 0 0] := MB.mk' hb3 qb3 hB
    replace hc := hc.stp sw64 (fun x hx => ew64.block x (hc.lt x hx).2)
    replace h4 := h4.stp sw64 (ew64.block b4 h4.lt)
    replace hE := hE.trans sw64.below
    replace ht := Rep.stp ht sw64
    replace ha := Rep.stp ha sw64
    replace hk := hk.stp sw64
    replace h1 := h1.stp sw64
    replace hsub := sw64.sb hsub
    replace hlow := sw64.low
    replace hB := sw64.z hB
    refine ⟨hS, ?_⟩
    refine a_one 3 rfl (by kernel_rfl) (o_call fo49 rfl rfl rfl (copyM_spec t _ _ _ ht hlow hz hns) ?_)
    rintro vhd w65 ⟨hd, ew65⟩
    replace hS := hS.then ew65
    replace hc := hc.ext hlow hB ew65
    replace h4 := h4.ext hlow hB ew65
    replace h3 := h3.ext hlow hB ew65
    replace hE := ew65.bl hE hB
    replace ht := Rep.ext ht ew65
    replace ha := Rep.ext ha ew65
    replace hk := hk.ext ew65
    replace h1 := h1.ext ew65
    replace hlow := hlow.ext ew65
    replace hB := ew65.z hB
    refine ⟨hS, ?_⟩
    obtain ⟨akvd, kvd, rfl, opd, nmd, agd, n64d, had, hkd⟩ := tm_open hd
    refine a_barS Ext 6 rfl (by kernel_rfl) (by kernel_rfl) (o_st tK h3.box rfl rfl rfl rfl hc.one rfl rfl ?_)
    intro w66 hw66 qw66 bew66
    have uw66 : UpdB _ _ _ := ⟨qw66, bew66⟩
    have sw66 := uw66.stp h3.inM hlow h3.ge
    have frw66 := qw66.2
    replace hc := hc.stp sw66 (fun x hx => frw66 x (hc.lt x hx).2 (d_hc_h3 x hx))
    replace h4 := h4.stp sw66 (frw66 b4 h4.lt ne_h4_h3)
    replace hE := hE.trans sw66.below
    replace ht := Rep.stp ht sw66
    replace ha := Rep.stp ha sw66
    replace hk := hk.stp sw66
    replace h1 := h1.stp sw66
    replace hd := Rep.stp hd sw66
    replace had := Rep.stp had sw66
    replace hkd := hkd.stp sw66
    replace hsub := sw66.sb hsub
    replace hlow := sw66.low
    replace hB := sw66.z hB
    replace hS : Ext w66 w66 := ext_refl _
    replace h3 : MB w.heap.size _ w66 b3 _ [.int .u8 t.op, .string t.name, .string t.arg, .int .i64 t.n, .bool t.has, .int .u8 t.ann.op, .string t.ann.name, .int .i64 t.ann.n, akvc, kvc] := ⟨hw66, h3.inM, h3.ge⟩
    have D_hk := hk
    have D_h1 := h1
    have D_h4 := h4.box
    have D_h3 := h3.box
    have D_hkd := hkd
    refine a_barS Ext 7 rfl (by kernel_rfl) (by kernel_rfl) (o_st tK h4.box rfl rfl rfl rfl (Rep.one hd) rfl rfl ?_)
    intro w67 hw67 qw67 bew67
    have uw67 : UpdB _ _ _ := ⟨qw67, bew67⟩
    have sw67 := uw67.stp h4.inM hlow h4.ge
    have frw67 := qw67.2
    replace hc := hc.stp sw67 (fun x hx => frw67 x (hc.lt x hx).2 (d_hc_h4 x hx))
    replace h3 := h3.stp sw67 (frw67 b3 h3.lt ne_h4_h3.symm)
    replace hE := hE.trans sw67.below
    replace ht := Rep.stp ht sw67
    replace ha := Rep.stp ha sw67
    replace hk := hk.stp sw67
    replace h1 := h1.stp sw67
    replace hd := Rep.stp hd sw67
    replace had := Rep.stp had sw67
    replace hkd := hkd.stp sw67
    replace hsub := sw67.sb hsub
    replace hlow := sw67.low
    replace hB := sw67.z hB
    replace hS : Ext w67 w67 := ext_refl _
    replace h4 : MB w.heap.size _ w67 b4 _ [.int .u8 t.op, .string t.name, .string t.arg, .int .i64 t.n, .bool t.has, .int .u8 t.ann.op, .string t.ann.name, .int .i64 t.ann.n, akvd, kvd] := ⟨hw67, h4.inM, h4.ge⟩
    have D_hk := hk
    have D_h1 := h1
    have D_h4 := h4.box
    have D_h3 := h3.box
    have D_hkd := hkd
    refine a_end (by kernel_rfl) ?_
    refine x_seq (c_seq (q0 ?_))
    refine lC (o_lds tK (fun j v hv => h3.cell j v hv) rfl rfl rfl rfl rfl rfl ?_)
    refine lC (o_lds tK (fun j v hv => h1.cell j v hv) rfl rfl rfl rfl rfl rfl ?_)
    have hal13 := alikeM_spec t t NoM w67 _ _ (hc.rep (M := NoM) (fun _ _ h => h)) (Rep.wk ht (fun _ _ h => h.elim)) (low_noM _)
    rw [cl_true rfl] at hal13
    refine lC (o_call fo37 rfl rfl rfl (hal13) ?_)
    rintro _ w68 ⟨rfl, ew68⟩
    replace hc := hc.ext hlow hB ew68
    replace h4 := h4.ext hlow hB ew68
    replace h3 := h3.ext hlow hB ew68
    replace hE := ew68.bl hE hB
    replace ht := Rep.ext ht ew68
    replace ha := Rep.ext ha ew68
    replace hk := hk.ext ew68
    replace h1 := h1.ext ew68
    replace hd := Rep.ext hd ew68
    replace had := Rep.ext had ew68
    replace hkd := hkd.ext ew68
    replace hlow := hlow.ext ew68
    replace hB := ew68.z hB
    refine l_p 1 tK rfl (q1 (c_ifF rfl (c_skip (x_seq (q0 ?_)))))
    refine lC (o_lds tK (fun j v hv => h3.cell j v hv) rfl rfl rfl rfl rfl rfl ?_)
    refine lC (o_call fo50 rfl rfl rfl (spoil_spec t (Rw.Add (Rw.Add (Or2 M G) b4) b3) _ w.heap.size _ G hc (fun c hc => by first | exact .inr hc | exact .inl (.inr hc) | exact .inl (.inl (.inr hc))) hlow hB) ?_)
    rintro _ w69 ⟨rfl, sw69, kw69⟩
    have frw69 : ∀ x, x < w68.heap.size → ¬ G x → w69.heap[x]? = w68.heap[x]? := fun x hx hg => kw69.blk x ⟨hx, hg⟩
    replace h4 := h4.stp sw69 (frw69 b4 h4.lt (fun g => d_hc_h4 _ g rfl))
    replace h3 := h3.stp sw69 (frw69 b3 h3.lt (fun g => d_hc_h3 _ g rfl))
    replace hE := hE.trans sw69.below
    replace ht := Rep.stp ht sw69
    replace ha := Rep.stp ha sw69
    replace hk := hk.stp sw69
    replace h1 := h1.stp sw69
    replace hd := Rep.stp hd sw69
    replace had := Rep.stp had sw69
    replace hkd := hkd.stp sw69
    replace hsub := sw69.sb hsub
    replace hlow := sw69.low
    replace hB := sw69.z hB
    refine q1 (q0 ?_)
    refine lC (o_lds tK (fun j v hv => h1.cell j v hv) rfl rfl rfl rfl rfl rfl ?_)
    have l_h4 := h4.lt
    have l_h3 := h3.lt
    refine lC (o_call fo51 rfl rfl rfl (node0_own t _ _ _ ht hlow hz hns) ?_)
    rintro _ w70 ⟨⟨vx, rfl, hx⟩, ew70⟩
    replace hx := hx.ge hB
    have hGX : ∀ c, Plus NoM w69 w70 c → w69.heap.size ≤ c ∧ c < w70.heap.size := fun c h => h.elim (fun h => h.elim) id
    generalize Plus NoM w69 w70 = GX at hx hGX
    have sw70 := (Stp.ext ew70 hlow hB).more hGX
    replace h4 := h4.stp sw70 (ew70.block b4 h4.lt)
    replace h3 := h3.stp sw70 (ew70.block b3 h3.lt)
    replace hE := hE.trans sw70.below
    replace ht := Rep.stp ht sw70
    replace ha := Rep.stp ha sw70
    replace hk := hk.stp sw70
    replace h1 := h1.stp sw70
    replace hd := Rep.stp hd sw70
    replace had := Rep.stp had sw70
    replace hkd := hkd.stp sw70
    replace hsub := sw70.sb hsub
    replace hlow := sw70.low
    replace hB := sw70.z hB
    have d_hx_h4 : ∀ x, GX x → x ≠ b4 := fun x hx => by have := (hGX x hx).1; omega
    have d_hx_h3 : ∀ x, GX x → x ≠ b3 := fun x hx => by have := (hGX x hx).1; omega
    obtain ⟨akvx, kvx, usx, Hx, FAx, rfl, hoax, hklx, hrx, hOx, hHx, hAx⟩ := otm_open hx
    refine l_p 3 tK rfl ?_
    refine lC (o_new tK rfl rfl rfl ?_)
    intro b5 w71 qb5 ew71 hb5
    have nb5 := nM_of hlow qb5
    refine lC (o_st tK hb5 rfl rfl rfl rfl hx.one rfl rfl ?_)
    intro w72 h5 uw72 bew72
    have ew72 : Ext w70 w72 := ew71.trans (bew72 _ (Nat.le_of_eq qb5.symm))
    replace h4 := h4.ext hlow hB ew72
    replace h3 := h3.ext hlow hB ew72
    replace hx := hx.ext hlow hB ew72
    replace hE := ew72.bl hE hB
    replace ht := Rep.ext ht ew72
    replace ha := Rep.ext ha ew72
    replace hk := hk.ext ew72
    replace h1 := h1.ext ew72
    replace hd := Rep.ext hd ew72
    replace had := Rep.ext had ew72
    replace hkd := hkd.ext ew72
    replace hlow := hlow.ext ew72
    replace hB := ew72.z hB
    replace h5 : Box w72 b5 84 [.int .u8 t.op, .string t.name, .string t.arg, .int .i64 t.n, .bool t.has, .int .u8 t.ann.op, .string t.ann.name, .int .i64 t.ann.n, akvx, kvx] := h5
    replace h5 := h5.at nb5
    refine l_p 1 tK rfl (q1 (q0 ?_))
    refine lC (o_lds tK (fun j v hv => h5.cell j v hv) rfl rfl rfl rfl rfl rfl ?_)
    refine lC (o_call fo50 rfl rfl rfl (spoil_spec t (Or2 (Rw.Add (Rw.Add (Or2 M G) b4) b3) GX) _ w.heap.size _ GX hx (fun c hc => by first | exact .inr hc | exact .inl (.inr hc) | exact .inl (.inl (.inr hc))) hlow hB) ?_)
    rintro _ w73 ⟨rfl, sw73, kw73⟩
    have frw73 : ∀ x, x < w72.heap.size → ¬ GX x → w73.heap[x]? = w72.heap[x]? := fun x hx hg => kw73.blk x ⟨hx, hg⟩
    replace h4 := h4.stp sw73 (frw73 b4 h4.lt (fun g => d_hx_h4 _ g rfl))
    replace h3 := h3.stp sw73 (frw73 b3 h3.lt (fun g => d_hx_h3 _ g rfl))
    replace hE := hE.trans sw73.below
    replace ht := Rep.stp ht sw73
    replace ha := Rep.stp ha sw73
    replace hk := hk.stp sw73
    replace h1 := h1.stp sw73
    replace hd := Rep.stp hd sw73
    replace had := Rep.stp had sw73
    replace hkd := hkd.stp sw73
    replace h5 := h5.stp sw73
    replace hsub := sw73.sb hsub
    replace hlow := sw73.low
    replace hB := sw73.z hB
    refine q1 (q0 ?_)
    refine lC (o_lds tK (fun j v hv => h4.cell j v hv) rfl rfl rfl rfl rfl rfl ?_)
    refine lC (o_lds tK (fun j v hv => h1.cell j v hv) rfl rfl rfl rfl rfl rfl ?_)
    have hal14 := alikeM_spec t t NoM w73 _ _ (Rep.wk hd (fun _ _ h => h.elim)) (Rep.wk ht (fun _ _ h => h.elim)) (low_noM _)
    rw [cl_true rfl] at hal14
    refine lC (o_call fo37 rfl rfl rfl (hal14) ?_)
    rintro _ w74 ⟨rfl, ew74⟩
    replace h4 := h4.ext hlow hB ew74
    replace h3 := h3.ext hlow hB ew74
    replace hE := ew74.bl hE hB
    replace ht := Rep.ext ht ew74
    replace ha := Rep.ext ha ew74
    replace hk := hk.ext ew74
    replace h1 := h1.ext ew74
    replace hd := Rep.ext hd ew74
    replace had := Rep.ext had ew74
    replace hkd := hkd.ext ew74
    replace h5 := h5.ext ew74
    replace hlow := hlow.ext ew74
    replace hB := ew74.z hB
    refine l_p 1 tK rfl (q1 (c_ret (x_ret1 rfl rfl ?_)))
    exact ⟨rfl, hE⟩
  · refine o_new tK rfl rfl rfl ?_
    intro b3 w75 qb3 ew75 hb3
    have gS_b3 := Nat.le_trans hS.size (Nat.le_of_eq qb3.symm)
    replace hS := hS.then ew75
    have sw75 := Stp.add ew75 hlow hB (Nat.le_of_eq qb3.symm) hb3.lt
    have h3 : MB w.heap.size (Rw.Add M b3) w75 b3 84 [.int .u8 0, .string ⟨#[]⟩, .string ⟨#[]⟩, .int .i64 0, .bool false, .int .u8 0, .string ⟨#[]⟩, .int .i64 0, .slice none 0 0, .slice none 0 0] := MB.mk' hb3 qb3 hB
    replace hE := hE.trans sw75.below
    replace ht := Rep.stp ht sw75
    replace ha := Rep.stp ha sw75
    replace hk := hk.stp sw75
    replace h1 := h1.stp sw75
    replace hsub := sw75.sb hsub
    replace hlow := sw75.low
    replace hB := sw75.z hB
    refine ⟨hS, ?_⟩
    refine a_all [1, 5] (by kernel_rfl) rfl (all_cons (i := 1) rfl ?_ (all_cons (i := 5) rfl ?_ all_nil))
    · have l_h3 := h3.lt
      refine o_call fo49 rfl rfl rfl (copyM_own t _ _ _ ht hlow hz hns) ?_
      rintro vc w76 ⟨hc, ew76⟩
      replace hc := hc.ge hB
      have hGl : ∀ c, Plus NoM w75 w76 c → w75.heap.size ≤ c ∧ c < w76.heap.size := fun c h => h.elim (fun h => h.elim) id
      generalize Plus NoM w75 w76 = G at hc hGl
      have sw76 := (Stp.ext ew76 hlow hB).more hGl
      replace hS := hS.then ew76
      replace h3 := h3.stp sw76 (ew76.block b3 h3.lt)
      replace hE := hE.trans sw76.below
      replace ht := Rep.stp ht sw76
      replace ha := Rep.stp ha sw76
      replace hk := hk.stp sw76
      replace h1 := h1.stp sw76
      replace hsub := sw76.sb hsub
      replace hlow := sw76.low
      replace hB := sw76.z hB
      refine ⟨hS, ?_⟩
      have d_hc_h3 : ∀ x, G x → x ≠ b3 := fun x hx => by have := (hGl x hx).1; omega
      obtain ⟨akvc, kvc, usc, Hc, FAc, rfl, hoac, hklc, hrc, hOc, hHc, hAc⟩ := otm_open hc
      refine a_all [3, 5] (by kernel_rfl) rfl (all_cons (i := 3) rfl ?_ (all_cons (i := 5) rfl ?_ all_nil))
      · refine o_call fo49 rfl rfl rfl (copyM_spec t _ _ _ ht hlow hz hns) ?_
        rintro vhd w77 ⟨hd, ew77⟩
        replace hS := hS.then ew77
        replace h3 := h3.ext hlow hB ew77
        replace hc := hc.ext hlow hB ew77
        replace hE := ew77.bl hE hB
        replace ht := Rep.ext ht ew77
        replace ha := Rep.ext ha ew77
        replace hk := hk.ext ew77
        replace h1 := h1.ext ew77
        replace hlow := hlow.ext ew77
        replace hB := ew77.z hB
        refine ⟨hS, ?_⟩
        obtain ⟨akvd, kvd, rfl, opd, nmd, agd, n64d, had, hkd⟩ := tm_open hd
        refine a_one 5 rfl (by kernel_rfl) (o_new tK rfl rfl rfl ?_)
        intro b4 w78 qb4 ew78 hb4
        have gS_b4 := Nat.le_trans hS.size (Nat.le_of_eq qb4.symm)
        replace hS := hS.then ew78
        have ne_h3_h4 : b3 ≠ b4 := by have := h3.lt; omega
        have d_hc_h4 : ∀ x, G x → x ≠ b4 := fun x hx => by have := (hc.lt x hx).2; omega
        have sw78 := Stp.add ew78 hlow hB (Nat.le_of_eq qb4.symm) hb4.lt
        have h4 : MB w.heap.size (Rw.Add (Or2 (Rw.Add M b3) G) b4) w78 b4 84 [.int .u8 0, .string ⟨#[]⟩, .string ⟨#[]⟩, .int .i64 0, .bool false, .int .u8 0, .string ⟨#[]⟩, .int .i64 0, .slice none 0 0, .slice none 0 0] := MB.mk' hb4 qb4 hB
        replace h3 := h3.stp sw78 (ew78.block b3 h3.lt)
        replace hc := hc.stp sw78 (fun x hx => ew78.block x (hc.lt x hx).2)
        replace hE := hE.trans sw78.below
        replace ht := Rep.stp ht sw78
        replace ha := Rep.stp ha sw78
        replace hk := hk.stp sw78
        replace h1 := h1.stp sw78
        replace hd := Rep.stp hd sw78
        replace had := Rep.stp had sw78
        replace hkd := hkd.stp sw78
        replace hsub := sw78.sb hsub
        replace hlow := sw78.low
        replace hB := sw78.z hB
        refine ⟨hS, ?_⟩
        refine a_barS Ext 6 rfl (by kernel_rfl) (by kernel_rfl) (o_st tK h3.box rfl rfl rfl rfl hc.one rfl rfl ?_)
        intro w79 hw79 qw79 bew79
        have uw79 : UpdB _ _ _ := ⟨qw79, bew79⟩
        have sw79 := uw79.stp h3.inM hlow h3.ge
        have frw79 := qw79.2
        replace hc := hc.stp sw79 (fun x hx => frw79 x (hc.lt x hx).2 (d_hc_h3 x hx))
        replace h4 := h4.stp sw79 (frw79 b4 h4.lt ne_h3_h4.symm)
        replace hE := hE.trans sw79.below
        replace ht := Rep.stp ht sw79
        replace ha := Rep.stp ha sw79
        replace hk := hk.stp sw79
        replace h1 := h1.stp sw79
        replace hd := Rep.stp hd sw79
        replace had := Rep.stp had sw79
        replace hkd := hkd.stp sw79
        replace hsub := sw79.sb hsub
        replace hlow := sw79.low
        replace hB := sw79.z hB
        replace hS : Ext w79 w79 := ext_refl _
        replace h3 : MB w.heap.size _ w79 b3 _ [.int .u8 t.op, .string t.name, .string t.arg, .int .i64 t.n, .bool t.has, .int .u8 t.ann.op, .string t.ann.name, .int .i64 t.ann.n, akvc, kvc] := ⟨hw79, h3.inM, h3.ge⟩
        have D_hk := hk
        have D_h1 := h1
        have D_h3 := h3.box
        have D_hkd := hkd
        have D_h4 := h4.box
        refine a_barS Ext 7 rfl (by kernel_rfl) (by kernel_rfl) (o_st tK h4.box rfl rfl rfl rfl (Rep.one hd) rfl rfl ?_)
        intro w80 hw80 qw80 bew80
        have uw80 : UpdB _ _ _ := ⟨qw80, bew80⟩
        have sw80 := uw80.stp h4.inM hlow h4.ge
        have frw80 := qw80.2
        replace h3 := h3.stp sw80 (frw80 b3 h3.lt ne_h3_h4)
        replace hc := hc.stp sw80 (fun x hx => frw80 x (hc.lt x hx).2 (d_hc_h4 x hx))
        replace hE := hE.trans sw80.below
        replace ht := Rep.stp ht sw80
        replace ha := Rep.stp ha sw80
        replace hk := hk.stp sw80
        replace h1 := h1.stp sw80
        replace hd := Rep.stp hd sw80
        replace had := Rep.stp had sw80
        replace hkd := hkd.stp sw80
        replace hsub := sw80.sb hsub
        replace hlow := sw80.low
        replace hB := sw80.z hB
        replace hS : Ext w80 w80 := ext_refl _
        replace h4 : MB w.heap.size _ w80 b4 _ [.int .u8 t.op, .string t.name, .string t.arg, .int .i64 t.n, .bool t.has, .int .u8 t.ann.op, .string t.ann.name, .int .i64 t.ann.n, akvd, kvd] := ⟨hw80, h4.inM, h4.ge⟩
        have D_hk := hk
        have D_h1 := h1
        have D_h3 := h3.box
        have D_hkd := hkd
        have D_h4 := h4.box
        refine a_end (by kernel_rfl) ?_
        refine x_seq (c_seq (q0 ?_))
        refine lC (o_lds tK (fun j v hv => h3.cell j v hv) rfl rfl rfl rfl rfl rfl ?_)
        refine lC (o_lds tK (fun j v hv => h1.cell j v hv) rfl rfl rfl rfl rfl rfl ?_)
        have hal15 := alikeM_spec t t NoM w80 _ _ (hc.rep (M := NoM) (fun _ _ h => h)) (Rep.wk ht (fun _ _ h => h.elim)) (low_noM _)
        rw [cl_true rfl] at hal15
        refine lC (o_call fo37 rfl rfl rfl (hal15) ?_)
        rintro _ w81 ⟨rfl, ew81⟩
        replace h3 := h3.ext hlow hB ew81
        replace hc := hc.ext hlow hB ew81
        replace h4 := h4.ext hlow hB ew81
        replace hE := ew81.bl hE hB
        replace ht := Rep.ext ht ew81
        replace ha := Rep.ext ha ew81
        replace hk := hk.ext ew81
        replace h1 := h1.ext ew81
        replace hd := Rep.ext hd ew81
        replace had := Rep.ext had ew81
        replace hkd := hkd.ext ew81
        replace hlow := hlow.ext ew81
        replace hB := ew81.z hB
        refine l_p 1 tK rfl (q1 (c_ifF rfl (c_skip (x_seq (q0 ?_)))))
        refine lC (o_lds tK (fun j v hv => h3.cell j v hv) rfl rfl rfl rfl rfl rfl ?_)
        refine lC (o_call fo50 rfl rfl rfl (spoil_spec t (Rw.Add (Or2 (Rw.Add M b3) G) b4) _ w.heap.size _ G hc (fun c hc => by first | exact .inr hc | exact .inl (.inr hc) | exact .inl (.inl (.inr hc))) hlow hB) ?_)
        rintro _ w82 ⟨rfl, sw82, kw82⟩
        have frw82 : ∀ x, x < w81.heap.size → ¬ G x → w82.heap[x]? = w81.heap[x]? := fun x hx hg => kw82.blk x ⟨hx, hg⟩
        replace h3 := h3.stp sw82 (frw82 b3 h3.lt (fun g => d_hc_h3 _ g rfl))
        replace h4 := h4.stp sw82 (frw82 b4 h4.lt (fun g => d_hc_h4 _ g rfl))
        replace hE := hE.trans sw82.below
        replace ht := Rep.stp ht sw82
        replace ha := Rep.stp ha sw82
        replace hk := hk.stp sw82
        replace h1 := h1.stp sw82
        replace hd := Rep.stp hd sw82
        replace had := Rep.stp had sw82
        replace hkd := hkd.stp sw82
        replace hsub := sw82.sb hsub
        replace hlow := sw82.low
        replace hB := sw82.z hB
        refine q1 (q0 ?_)
        refine lC (o_lds tK (fun j v hv => h1.cell j v hv) rfl rfl rfl rfl rfl rfl ?_)
        have l_h3 := h3.lt
        have l_h4 := h4.lt
        refine lC (o_call fo51 rfl rfl rfl (node0_own t _ _ _ ht hlow hz hns) ?_)
        rintro _ w83 ⟨⟨vx, rfl, hx⟩, ew83⟩
        replace hx := hx.ge hB
        have hGX : ∀ c, Plus NoM w82 w83 c → w82.heap.size ≤ c ∧ c < w83.heap.size := fun c h => h.elim (fun h => h.elim) id
        generalize Plus NoM w82 w83 = GX at hx hGX
        have sw83 := (Stp.ext ew83 hlow hB).more hGX
        replace h3 := h3.stp sw83 (ew83.block b3 h3.lt)
        replace h4 := h4.stp sw83 (ew83.block b4 h4.lt)
        replace hE := hE.trans sw83.below
        replace ht := Rep.stp ht sw83
        replace ha := Rep.stp ha sw83
        replace hk := hk.stp sw83
        replace h1 := h1.stp sw83
        replace hd := Rep.stp hd sw83
        replace had := Rep.stp had sw83
        replace hkd := hkd.stp sw83
        replace hsub := sw83.sb hsub
        replace hlow := sw83.low
        replace hB := sw83.z hB
        have d_hx_h3 : ∀ x, GX x → x ≠ b3 := fun x hx => by have := (hGX x hx).1; omega
        have d_hx_h4 : ∀ x, GX x → x ≠ b4 := fun x hx => by have := (hGX x hx).1; omega
        obtain ⟨akvx, kvx, usx, Hx, FAx, rfl, hoax, hklx, hrx, hOx, hHx, hAx⟩ := otm_open hx
        refine l_p 3 tK rfl ?_
        refine lC (o_new tK rfl rfl rfl ?_)
        intro b5 w84 qb5 ew84 hb5
        have nb5 := nM_of hlow qb5
        refine lC (o_st tK hb5 rfl rfl rfl rfl hx.one rfl rfl ?_)
        intro w85 h5 uw85 bew85
        have ew85 : Ext w83 w85 := ew84.trans (bew85 _ (Nat.le_of_eq qb5.symm))
        replace h3 := h3.ext hlow hB ew85
        replace h4 := h4.ext hlow hB ew85
        replace hx := hx.ext hlow hB ew85
        replace hE := ew85.bl hE hB
        replace ht := Rep.ext ht ew85
        replace ha := Rep.ext ha ew85
        replace hk := hk.ext ew85
        replace h1 := h1.ext ew85
        replace hd := Rep.ext hd ew85
        replace had := Rep.ext had ew85
        replace hkd := hkd.ext ew85
        replace hlow := hlow.ext ew85
        replace hB := ew85.z hB
        replace h5 : Box w85 b5 84 [.int .u8 t.op, .string t.name, .string t.arg, .int .i64 t.n, .bool t.has, .int .u8 t.ann.op, .string t.ann.name, .int .i64 t.ann.n, akvx, kvx] := h5
        replace h5 := h5.at nb5
        refine l_p 1 tK rfl (q1 (q0 ?_))
        refine lC (o_lds tK (fun j v hv => h5.cell j v hv) rfl rfl rfl rfl rfl rfl ?_)
        refine lC (o_call fo50 rfl rfl rfl (spoil_spec t (Or2 (Rw.Add (Or2 (Rw.Add M b3) G) b4) GX) _ w.heap.size _ GX hx (fun c hc => by first | exact .inr hc | exact .inl (.inr hc) | exact .inl (.inl (.inr hc))) hlow hB) ?_)
        rintro _ w86 ⟨rfl, sw86, kw86⟩
        have frw86 : ∀ x, x < w85.heap.size → ¬ GX x → w86.heap[x]? = w85.heap[x]? := fun x hx hg => kw86.blk x ⟨hx, hg⟩
        replace h3 := h3.stp sw86 (frw86 b3 h3.lt (fun g => d_hx_h3 _ g rfl))
        replace h4 := h4.stp sw86 (frw86 b4 h4.lt (fun g => d_hx_h4 _ g rfl))
        replace hE := hE.trans sw86.below
        replace ht := Rep.stp ht sw86
        replace ha := Rep.stp ha sw86
        replace hk := hk.stp sw86
        replace h1 := h1.stp sw86
        replace hd := Rep.stp hd sw86
        replace had := Rep.stp had sw86
        replace hkd := hkd.stp sw86
        replace h5 := h5.stp sw86
        replace hsub := sw86.sb hsub
        replace hlow := sw86.low
        replace hB := sw86.z hB
        refine q1 (q0 ?_)
        refine lC (o_lds tK (fun j v hv => h4.cell j v hv) rfl rfl rfl rfl rfl rfl ?_)
        refine lC (o_lds tK (fun j v hv => h1.cell j v hv) rfl rfl rfl rfl rfl rfl ?_)
        have hal16 := alikeM_spec t t NoM w86 _ _ (Rep.wk hd (fun _ _ h => h.elim)) (Rep.wk ht (fun _ _ h => h.elim)) (low_noM _)
        rw [cl_true rfl] at hal16
        refine lC (o_call fo37 rfl rfl rfl (hal16) ?_)
        rintro _ w87 ⟨rfl, ew87⟩
        replace h3 := h3.ext hlow hB ew87
        replace h4 := h4.ext hlow hB ew87
        replace hE := ew87.bl hE hB
        replace ht := Rep.ext ht ew87
        replace ha := Rep.ext ha ew87
        replace hk := hk.ext ew87
        replace h1 := h1.ext ew87
        replace hd := Rep.ext hd ew87
        replace had := Rep.ext had ew87
        replace hkd := hkd.ext ew87
        replace h5 := h5.ext ew87
        replace hlow := hlow.ext ew87
        replace hB := ew87.z hB
        refine l_p 1 tK rfl (q1 (c_ret (x_ret1 rfl rfl ?_)))
        exact ⟨rfl, hE⟩
      refine o_new tK rfl rfl rfl ?_
      intro b4 w88 qb4 ew88 hb4
      have gS_b4 := Nat.le_trans hS.size (Nat.le_of_eq qb4.symm)
      replace hS := hS.then ew88
      have ne_h3_h4 : b3 ≠ b4 := by have := h3.lt; omega
      have d_hc_h4 : ∀ x, G x → x ≠ b4 := fun x hx => by have := (hc.lt x hx).2; omega
      have sw88 := Stp.add ew88 hlow hB (Nat.le_of_eq qb4.symm) hb4.lt
      have h4 : MB w.heap.size (Rw.Add (Or2 (Rw.Add M b3) G) b4) w88 b4 84 [.int .u8 0, .string ⟨#[]⟩, .string ⟨#[]⟩, .int .i64 0, .bool false, .int .u8 0, .string ⟨#[]⟩, .int .i64 0, .slice none 0 0, .slice none 0 0] := MB.mk' hb4 qb4 hB
      replace h3 := h3.stp sw88 (ew88.block b3 h3.lt)
      replace hc := hc.stp sw88 (fun x hx => ew88.block x (hc.lt x hx).2)
      replace hE := hE.trans sw88.below
      replace ht := Rep.stp ht sw88
      replace ha := Rep.stp ha sw88
      replace hk := hk.stp sw88
      replace h1 := h1.stp sw88
      replace hsub := sw88.sb hsub
      replace hlow := sw88.low
      replace hB := sw88.z hB
      refine ⟨hS, ?_⟩
      refine a_one 3 rfl (by kernel_rfl) (o_call fo49 rfl rfl rfl (copyM_spec t _ _ _ ht hlow hz hns) ?_)
      rintro vhd w89 ⟨hd, ew89⟩
      replace hS := hS.then ew89
      replace h3 := h3.ext hlow hB ew89
      replace hc := hc.ext hlow hB ew89
      replace h4 := h4.ext hlow hB ew89
      replace hE := ew89.bl hE hB
      replace ht := Rep.ext ht ew89
      replace ha := Rep.ext ha ew89
      replace hk := hk.ext ew89
      replace h1 := h1.ext ew89
      replace hlow := hlow.ext ew89
      replace hB := ew89.z hB
      refine ⟨hS, ?_⟩
      obtain ⟨akvd, kvd, rfl, opd, nmd, agd, n64d, had, hkd⟩ := tm_open hd
      refine a_barS Ext 6 rfl (by kernel_rfl) (by kernel_rfl) (o_st tK h3.box rfl rfl rfl rfl hc.one rfl rfl ?_)
      intro w90 hw90 qw90 bew90
      have uw90 : UpdB _ _ _ := ⟨qw90, bew90⟩
      have sw90 := uw90.stp h3.inM hlow h3.ge
      have frw90 := qw90.2
      replace hc := hc.stp sw90 (fun x hx => frw90 x (hc.lt x hx).2 (d_hc_h3 x hx))
      replace h4 := h4.stp sw90 (frw90 b4 h4.lt ne_h3_h4.symm)
      replace hE := hE.trans sw90.below
      replace ht := Rep.stp ht sw90
      replace ha := Rep.stp ha sw90
      replace hk := hk.stp sw90
      replace h1 := h1.stp sw90
      replace hd := Rep.stp hd sw90
      replace had := Rep.stp had sw90
      replace hkd := hkd.stp sw90
      replace hsub := sw90.sb hsub
      replace hlow := sw90.low
      replace hB := sw90.z hB
      replace hS : Ext w90 w90 := ext_refl _
      replace h3 : MB w.heap.size _ w90 b3 _ [.int .u8 t.op, .string t.name, .string t.arg, .int .i64 t.n, .bool t.has, .int .u8 t.ann.op, .string t.ann.name, .int .i64 t.ann.n, akvc, kvc] := ⟨hw90, h3.inM, h3.ge⟩
      have D_hk := hk
      have D_h1 := h1
      have D_h3 := h3.box
      have D_h4 := h4.box
      have D_hkd := hkd
      refine a_barS Ext 7 rfl (by kernel_rfl) (by kernel_rfl) (o_st tK h4.box rfl rfl rfl rfl (Rep.one hd) rfl rfl ?_)
      intro w91 hw91 qw91 bew91
      have uw91 : UpdB _ _ _ := ⟨qw91, bew91⟩
      have sw91 := uw91.stp h4.inM hlow h4.ge
      have frw91 := qw91.2
      replace h3 := h3.stp sw91 (frw91 b3 h3.lt ne_h3_h4)
      replace hc := hc.stp sw91 (fun x hx => frw91 x (hc.lt x hx).2 (d_hc_h4 x hx))
      replace hE := hE.trans sw91.below
      replace ht := Rep.stp ht sw91
      replace ha := Rep.stp ha sw91
      replace hk := hk.stp sw91
      replace h1 := h1.stp sw91
      replace hd := Rep.stp hd sw91
      replace had := Rep.stp had sw91
      replace hkd := hkd.stp sw91
      replace hsub := sw91.sb hsub
      replace hlow := sw91.low
      replace hB := sw91.z hB
      replace hS : Ext w91 w91 := ext_refl _
      replace h4 : MB w.heap.size _ w91 b4 _ [.int .u8 t.op, .string t.name, .string t.arg, .int .i64 t.n, .bool t.has, .int .u8 t.ann.op, .string t.ann.name, .int .i64 t.ann.n, akvd, kvd] := ⟨hw91, h4.inM, h4.ge⟩
      have D_hk := hk
      have D_h1 := h1
      have D_h3 := h3.box
      have D_h4 := h4.box
      have D_hkd := hkd
      refine a_end (by kernel_rfl) ?_
      refine x_seq (c_seq (q0 ?_))
      refine lC (o_lds tK (fun j v hv => h3.cell j v hv) rfl rfl rfl rfl rfl rfl ?_)
      refine lC (o_lds tK (fun j v hv => h1.cell j v hv) rfl rfl rfl rfl rfl rfl ?_)
      have hal17 := alikeM_spec t t NoM w91 _ _ (hc.rep (M := NoM) (fun _ _ h => h)) (Rep.wk ht (fun _ _ h => h.elim)) (low_noM _)
      rw [cl_true rfl] at hal17
      refine lC (o_call fo37 rfl rfl rfl (hal17) ?_)
      rintro _ w92 ⟨rfl, ew92⟩
      replace h3 := h3.ext hlow hB ew92
      replace hc := hc.ext hlow hB ew92
      replace h4 := h4.ext hlow hB ew92
      replace hE := ew92.bl hE hB
      replace ht := Rep.ext ht ew92
      replace ha := Rep.ext ha ew92
      replace hk := hk.ext ew92
      replace h1 := h1.ext ew92
      replace hd := Rep.ext hd ew92
      replace had := Rep.ext had ew92
      replace hkd := hkd.ext ew92
      replace hlow := hlow.ext ew92
      replace hB := ew92.z hB
      refine l_p 1 tK rfl (q1 (c_ifF rfl (c_skip (x_seq (q0 ?_)))))
      refine lC (o_lds tK (fun j v hv => h3.cell j v hv) rfl rfl rfl rfl rfl rfl ?_)
      refine lC (o_call fo50 rfl rfl rfl (spoil_spec t (Rw.Add (Or2 (Rw.Add M b3) G) b4) _ w.heap.size _ G hc (fun c hc => by first | exact .inr hc | exact .inl (.inr hc) | exact .inl (.inl (.inr hc))) hlow hB) ?_)
      rintro _ w93 ⟨rfl, sw93, kw93⟩
      have frw93 : ∀ x, x < w92.heap.size → ¬ G x → w93.heap[x]? = w92.heap[x]? := fun x hx hg => kw93.blk x ⟨hx, hg⟩
      replace h3 := h3.stp sw93 (frw93 b3 h3.lt (fun g => d_hc_h3 _ g rfl))
      replace h4 := h4.stp sw93 (frw93 b4 h4.lt (fun g => d_hc_h4 _ g rfl))
      replace hE := hE.trans sw93.below
      replace ht := Rep.stp ht sw93
      replace ha := Rep.stp ha sw93
      replace hk := hk.stp sw93
      replace h1 := h1.stp sw93
      replace hd := Rep.stp hd sw93
      replace had := Rep.stp had sw93
      replace hkd := hkd.stp sw93
      replace hsub := sw93.sb hsub
      replace hlow := sw93.low
      replace hB := sw93.z hB
      refine q1 (q0 ?_)
      refine lC (o_lds tK (fun j v hv => h1.cell j v hv) rfl rfl rfl rfl rfl rfl ?_)
      have l_h3 := h3.lt
      have l_h4 := h4.lt
      refine lC (o_call fo51 rfl rfl rfl (node0_own t _ _ _ ht hlow hz hns) ?_)
      rintro _ w94 ⟨⟨vx, rfl, hx⟩, ew94⟩
      replace hx := hx.ge hB
      have hGX : ∀ c, Plus NoM w93 w94 c → w93.heap.size ≤ c ∧ c < w94.heap.size := fun c h => h.elim (fun h => h.elim) id
      generalize Plus NoM w93 w94 = GX at hx hGX
      have sw94 := (Stp.ext ew94 hlow hB).more hGX
      replace h3 := h3.stp sw94 (ew94.block b3 h3.lt)
      replace h4 := h4.stp sw94 (ew94.block b4 h4.lt)
      replace hE := hE.trans sw94.below
      replace ht := Rep.stp ht sw94
      replace ha := Rep.stp ha sw94
      replace hk := hk.stp sw94
      replace h1 := h1.stp sw94
      replace hd := Rep.stp hd sw94
      replace had := Rep.stp had sw94
      replace hkd := hkd.stp sw94
      replace hsub := sw94.sb hsub
      replace hlow := sw94.low
      replace hB := sw94.z hB
      have d_hx_h3 : ∀ x, GX x → x ≠ b3 := fun x hx => by have := (hGX x hx).1; omega
      have d_hx_h4 : ∀ x, GX x → x ≠ b4 := fun x hx => by have := (hGX x hx).1; omega
      obtain ⟨akvx, kvx, usx, Hx, FAx, rfl, hoax, hklx, hrx, hOx, hHx, hAx⟩ := otm_open hx
      refine l_p 3 tK rfl ?_
      refine lC (o_new tK rfl rfl rfl ?_)
      intro b5 w95 qb5 ew95 hb5
      have nb5 := nM_of hlow qb5
      refine lC (o_st tK hb5 rfl rfl rfl rfl hx.one rfl rfl ?_)
      intro w96 h5 uw96 bew96
      have ew96 : Ext w94 w96 := ew95.trans (bew96 _ (Nat.le_of_eq qb5.symm))
      replace h3 := h3.ext hlow hB ew96
      replace h4 := h4.ext hlow hB ew96
      replace hx := hx.ext hlow hB ew96
      replace hE := ew96.bl hE hB
      replace ht := Rep.ext ht ew96
      replace ha := Rep.ext ha ew96
      replace hk := hk.ext ew96
      replace h1 := h1.ext ew96
      replace hd := Rep.ext hd ew96
      replace had := Rep.ext had ew96
      replace hkd := hkd.ext ew96
      replace hlow := hlow.ext ew96
      replace hB := ew96.z hB
      replace h5 : Box w96 b5 84 [.int .u8 t.op, .string t.name, .string t.arg, .int .i64 t.n, .bool t.has, .int .u8 t.ann.op, .string t.ann.name, .int .i64 t.ann.n, akvx, kvx] := h5
      replace h5 := h5.at nb5
      refine l_p 1 tK rfl (q1 (q0 ?_))
      refine lC (o_lds tK (fun j v hv => h5.cell j v hv) rfl rfl rfl rfl rfl rfl ?_)
      refine lC (o_call fo50 rfl rfl rfl (spoil_spec t (Or2 (Rw.Add (Or2 (Rw.Add M b3) G) b4) GX) _ w.heap.size _ GX hx (fun c hc => by first | exact .inr hc | exact .inl (.inr hc) | exact .inl (.inl (.inr hc))) hlow hB) ?_)
      rintro _ w97 ⟨rfl, sw97, kw97⟩
      have frw97 : ∀ x, x < w96.heap.size → ¬ GX x → w97.heap[x]? = w96.heap[x]? := fun x hx hg => kw97.blk x ⟨hx, hg⟩
      replace h3 := h3.stp sw97 (frw97 b3 h3.lt (fun g => d_hx_h3 _ g rfl))
      replace h4 := h4.stp sw97 (frw97 b4 h4.lt (fun g => d_hx_h4 _ g rfl))
      replace hE := hE.trans sw97.below
      replace ht := Rep.stp ht sw97
      replace ha := Rep.stp ha sw97
      replace hk := hk.stp sw97
      replace h1 := h1.stp sw97
      replace hd := Rep.stp hd sw97
      replace had := Rep.stp had sw97
      replace hkd := hkd.stp sw97
      replace h5 := h5.stp sw97
      replace hsub := sw97.sb hsub
      replace hlow := sw97.low
      replace hB := sw97.z hB
      refine q1 (q0 ?_)
      refine lC (o_lds tK (fun j v hv => h4.cell j v hv) rfl rfl rfl rfl rfl rfl ?_)
      refine lC (o_lds tK (fun j v hv => h1.cell j v hv) rfl rfl rfl rfl rfl rfl ?_)
      have hal18 := alikeM_spec t t NoM w97 _ _ (Rep.wk hd (fun _ _ h => h.elim)) (Rep.wk ht (fun _ _ h => h.elim)) (low_noM _)
      rw [cl_true rfl] at hal18
      refine lC (o_call fo37 rfl rfl rfl (hal18) ?_)
      rintro _ w98 ⟨rfl, ew98⟩
      replace h3 := h3.ext hlow hB ew98
      replace h4 := h4.ext hlow hB ew98
      replace hE := ew98.bl hE hB
      replace ht := Rep.ext ht ew98
      replace ha := Rep.ext ha ew98
      replace hk := hk.ext ew98
      replace h1 := h1.ext ew98
      replace hd := Rep.ext hd ew98
      replace had := Rep.ext had ew98
      replace hkd := hkd.ext ew98
      replace h5 := h5.ext ew98
      replace hlow := hlow.ext ew98
      replace hB := ew98.z hB
      refine l_p 1 tK rfl (q1 (c_ret (x_ret1 rfl rfl ?_)))
      exact ⟨rfl, hE⟩
    refine o_new tK rfl rfl rfl ?_
    intro b4 w99 qb4 ew99 hb4
    have gS_b4 := Nat.le_trans hS.size (Nat.le_of_eq qb4.symm)
    replace hS := hS.then ew99
    have ne_h3_h4 : b3 ≠ b4 := by have := h3.lt; omega
    have sw99 := Stp.add ew99 hlow hB (Nat.le_of_eq qb4.symm) hb4.lt
    have h4 : MB w.heap.size (Rw.Add (Rw.Add M b3) b4) w99 b4 84 [.int .u8 0, .string ⟨#[]⟩, .string ⟨#[]⟩, .int .i64 0, .bool false, .int .u8 0, .string ⟨#[]⟩, .int .i64 0, .slice none 0 0, .slice none 0 0] := MB.mk' hb4 qb4 hB
    replace h3 := h3.stp sw99 (ew99.block b3 h3.lt)
    replace hE := hE.trans sw99.below
    replace ht := Rep.stp ht sw99
    replace ha := Rep.stp ha sw99
    replace hk := hk.stp sw99
    replace h1 := h1.stp sw99
    replace hsub := sw99.sb hsub
    replace hlow := sw99.low
    replace hB := sw99.z hB
    refine ⟨hS, ?_⟩
    have l_h3 := h3.lt
    have l_h4 := h4.lt
    refine a_one 1 rfl (by kernel_rfl) (o_call fo49 rfl rfl rfl (copyM_own t _ _ _ ht hlow hz hns) ?_)
    rintro vc w100 ⟨hc, ew100⟩
    replace hc := hc.ge hB
    have hGl : ∀ c, Plus NoM w99 w100 c → w99.heap.size ≤ c ∧ c < w100.heap.size := fun c h => h.elim (fun h => h.elim) id
    generalize Plus NoM w99 w100 = G at hc hGl
    have sw100 := (Stp.ext ew100 hlow hB).more hGl
    replace hS := hS.then ew100
    replace h3 := h3.stp sw100 (ew100.block b3 h3.lt)
    replace h4 := h4.stp sw100 (ew100.block b4 h4.lt)
    replace hE := hE.trans sw100.below
    replace ht := Rep.stp ht sw100
    replace ha := Rep.stp ha sw100
    replace hk := hk.stp sw100
    replace h1 := h1.stp sw100
    replace hsub := sw100.sb hsub
    replace hlow := sw100.low
    replace hB := sw100.z hB
    refine ⟨hS, ?_⟩
    have d_hc_h3 : ∀ x, G x → x ≠ b3 := fun x hx => by have := (hGl x hx).1; omega
    have d_hc_h4 : ∀ x, G x → x ≠ b4 := fun x hx => by have := (hGl x hx).1; omega
    obtain ⟨akvc, kvc, usc, Hc, FAc, rfl, hoac, hklc, hrc, hOc, hHc, hAc⟩ := otm_open hc
    refine a_one 3 rfl (by kernel_rfl) (o_call fo49 rfl rfl rfl (copyM_spec t _ _ _ ht hlow hz hns) ?_)
    rintro vhd w101 ⟨hd, ew101⟩
    replace hS := hS.then ew101
    replace h3 := h3.ext hlow hB ew101
    replace h4 := h4.ext hlow hB ew101
    replace hc := hc.ext hlow hB ew101
    replace hE := ew101.bl hE hB
    replace ht := Rep.ext ht ew101
    replace ha := Rep.ext ha ew101
    replace hk := hk.ext ew101
    replace h1 := h1.ext ew101
    replace hlow := hlow.ext ew101
    replace hB := ew101.z hB
    refine ⟨hS, ?_⟩
    obtain ⟨akvd, kvd, rfl, opd, nmd, agd, n64d, had, hkd⟩ := tm_open hd
    refine a_barS Ext 6 rfl (by kernel_rfl) (by kernel_rfl) (o_st tK h3.box rfl rfl rfl rfl hc.one rfl rfl ?_)
    intro w102 hw102 qw102 bew102
    have uw102 : UpdB _ _ _ := ⟨qw102, bew102⟩
    have sw102 := uw102.stp h3.inM hlow h3.ge
    have frw102 := qw102.2
    replace h4 := h4.stp sw102 (frw102 b4 h4.lt ne_h3_h4.symm)
    replace hc := hc.stp sw102 (fun x hx => frw102 x (hc.lt x hx).2 (d_hc_h3 x hx))
    replace hE := hE.trans sw102.below
    replace ht := Rep.stp ht sw102
    replace ha := Rep.stp ha sw102
    replace hk := hk.stp sw102
    replace h1 := h1.stp sw102
    replace hd := Rep.stp hd sw102
    replace had := Rep.stp had sw102
    replace hkd := hkd.stp sw102
    replace hsub := sw102.sb hsub
    replace hlow := sw102.low
    replace hB := sw102.z hB
    replace hS : Ext w102 w102 := ext_refl _
    replace h3 : MB w.heap.size _ w102 b3 _ [.int .u8 t.op, .string t.name, .string t.arg, .int .i64 t.n, .bool t.has, .int .u8 t.ann.op, .string t.ann.name, .int .i64 t.ann.n, akvc, kvc] := ⟨hw102, h3.inM, h3.ge⟩
    have D_hk := hk
    have D_h1 := h1
    have D_h3 := h3.box
    have D_h4 := h4.box
    have D_hkd := hkd
    refine a_barS Ext 7 rfl (by kernel_rfl) (by kernel_rfl) (o_st tK h4.box rfl rfl rfl rfl (Rep.one hd) rfl rfl ?_)
    intro w103 hw103 qw103 bew103
    have uw103 : UpdB _ _ _ := ⟨qw103, bew103⟩
    have sw103 := uw103.stp h4.inM hlow h4.ge
    have frw103 := qw103.2
    replace h3 := h3.stp sw103 (frw103 b3 h3.lt ne_h3_h4)
    replace hc := hc.stp sw103 (fun x hx => frw103 x (hc.lt x hx).2 (d_hc_h4 x hx))
    replace hE := hE.trans sw103.below
    replace ht := Rep.stp ht sw103
    replace ha := Rep.stp ha sw103
    replace hk := hk.stp sw103
    replace h1 := h1.stp sw103
    replace hd := Rep.stp hd sw103
    replace had := Rep.stp had sw103
    replace hkd := hkd.stp sw103
    replace hsub := sw103.sb hsub
    replace hlow := sw103.low
    replace hB := sw103.z hB
    replace hS : Ext w103 w103 := ext_refl _
    replace h4 : MB w.heap.size _ w103 b4 _ [.int .u8 t.op, .string t.name, .string t.arg, .int .i64 t.n, .bool t.has, .int .u8 t.ann.op, .string t.ann.name, .int .i64 t.ann.n, akvd, kvd] := ⟨hw103, h4.inM, h4.ge⟩
    have D_hk := hk
    have D_h1 := h1
    have D_h3 := h3.box
    have D_h4 := h4.box
    have D_hkd := hkd
    refine a_end (by kernel_rfl) ?_
    refine x_seq (c_seq (q0 ?_))
    refine lC (o_lds tK (fun j v hv => h3.cell j v hv) rfl rfl rfl rfl rfl rfl ?_)
    refine lC (o_lds tK (fun j v hv => h1.cell j v hv) rfl rfl rfl rfl rfl rfl ?_)
    have hal19 := alikeM_spec t t NoM w103 _ _ (hc.rep (M := NoM) (fun _ _ h => h)) (Rep.wk ht (fun _ _ h => h.elim)) (low_noM _)
    rw [cl_true rfl] at hal19
    refine lC (o_call fo37 rfl rfl rfl (hal19) ?_)
    rintro _ w104 ⟨rfl, ew104⟩
    replace h3 := h3.ext hlow hB ew104
    replace h4 := h4.ext hlow hB ew104
    replace hc := hc.ext hlow hB ew104
    replace hE := ew104.bl hE hB
    replace ht := Rep.ext ht ew104
    replace ha := Rep.ext ha ew104
    replace hk := hk.ext ew104
    replace h1 := h1.ext ew104
    replace hd := Rep.ext hd ew104
    replace had := Rep.ext had ew104
    replace hkd := hkd.ext ew104
    replace hlow := hlow.ext ew104
    replace hB := ew104.z hB
    refine l_p 1 tK rfl (q1 (c_ifF rfl (c_skip (x_seq (q0 ?_)))))
    refine lC (o_lds tK (fun j v hv => h3.cell j v hv) rfl rfl rfl rfl rfl rfl ?_)
    refine lC (o_call fo50 rfl rfl rfl (spoil_spec t (Or2 (Rw.Add (Rw.Add M b3) b4) G) _ w.heap.size _ G hc (fun c hc => by first | exact .inr hc | exact .inl (.inr hc) | exact .inl (.inl (.inr hc))) hlow hB) ?_)
    rintro _ w105 ⟨rfl, sw105, kw105⟩
    have frw105 : ∀ x, x < w104.heap.size → ¬ G x → w105.heap[x]? = w104.heap[x]? := fun x hx hg => kw105.blk x ⟨hx, hg⟩
    replace h3 := h3.stp sw105 (frw105 b3 h3.lt (fun g => d_hc_h3 _ g rfl))
    replace h4 := h4.stp sw105 (frw105 b4 h4.lt (fun g => d_hc_h4 _ g rfl))
    replace hE := hE.trans sw105.below
    replace ht := Rep.stp ht sw105
    replace ha := Rep.stp ha sw105
    replace hk := hk.stp sw105
    replace h1 := h1.stp sw105
    replace hd := Rep.stp hd sw105
    replace had := Rep.stp had sw105
    replace hkd := hkd.stp sw105
    replace hsub := sw105.sb hsub
    replace hlow := sw105.low
    replace hB := sw105.z hB
    refine q1 (q0 ?_)
    refine lC (o_lds tK (fun j v hv => h1.cell j v hv) rfl rfl rfl rfl rfl rfl ?_)
    have l_h3 := h3.lt
    have l_h4 := h4.lt
    refine lC (o_call fo51 rfl rfl rfl (node0_own t _ _ _ ht hlow hz hns) ?_)
    rintro _ w106 ⟨⟨vx, rfl, hx⟩, ew106⟩
    replace hx := hx.ge hB
    have hGX : ∀ c, Plus NoM w105 w106 c → w105.heap.size ≤ c ∧ c < w106.heap.size := fun c h => h.elim (fun h => h.elim) id
    generalize Plus NoM w105 w106 = GX at hx hGX
    have sw106 := (Stp.ext ew106 hlow hB).more hGX
    replace h3 := h3.stp sw106 (ew106.block b3 h3.lt)
    replace h4 := h4.stp sw106 (ew106.block b4 h4.lt)
    replace hE := hE.trans sw106.below
    replace ht := Rep.stp ht sw106
    replace ha := Rep.stp ha sw106
    replace hk := hk.stp sw106
    replace h1 := h1.stp sw106
    replace hd := Rep.stp hd sw106
    replace had := Rep.stp had sw106
    replace hkd := hkd.stp sw106
    replace hsub := sw106.sb hsub
    replace hlow := sw106.low
    replace hB := sw106.z hB
    have d_hx_h3 : ∀ x, GX x → x ≠ b3 := fun x hx => by have := (hGX x hx).1; omega
    have d_hx_h4 : ∀ x, GX x → x ≠ b4 := fun x hx => by have := (hGX x hx).1; omega
    obtain ⟨akvx, kvx, usx, Hx, FAx, rfl, hoax, hklx, hrx, hOx, hHx, hAx⟩ := otm_open hx
    refine l_p 3 tK rfl ?_
    refine lC (o_new tK rfl rfl rfl ?_)
    intro b5 w107 qb5 ew107 hb5
    have nb5 := nM_of hlow qb5
    refine lC (o_st tK hb5 rfl rfl rfl rfl hx.one rfl rfl ?_)
    intro w108 h5 uw108 bew108
    have ew108 : Ext w106 w108 := ew107.trans (bew108 _ (Nat.le_of_eq qb5.symm))
    replace h3 := h3.ext hlow hB ew108
    replace h4 := h4.ext hlow hB ew108
    replace hx := hx.ext hlow hB ew108
    replace hE := ew108.bl hE hB
    replace ht := Rep.ext ht ew108
    replace ha := Rep.ext ha ew108
    replace hk := hk.ext ew108
    replace h1 := h1.ext ew108
    replace hd := Rep.ext hd ew108
    replace had := Rep.ext had ew108
    replace hkd := hkd.ext ew108
    replace hlow := hlow.ext ew108
    replace hB := ew108.z hB
    replace h5 : Box w108 b5 84 [.int .u8 t.op, .string t.name, .string t.arg, .int .i64 t.n, .bool t.has, .int .u8 t.ann.op, .string t.ann.name, .int .i64 t.ann.n, akvx, kvx] := h5
    replace h5 := h5.at nb5
    refine l_p 1 tK rfl (q1 (q0 ?_))
    refine lC (o_lds tK (fun j v hv => h5.cell j v hv) rfl rfl rfl rfl rfl rfl ?_)
    refine lC (o_call fo50 rfl rfl rfl (spoil_spec t (Or2 (Or2 (Rw.Add (Rw.Add M b3) b4) G) GX) _ w.heap.size _ GX hx (fun c hc => by first | exact .inr hc | exact .inl (.inr hc) | exact .inl (.inl (.inr hc))) hlow hB) ?_)
    rintro _ w109 ⟨rfl, sw109, kw109⟩
    have frw109 : ∀ x, x < w108.heap.size → ¬ GX x → w109.heap[x]? = w108.heap[x]? := fun x hx hg => kw109.blk x ⟨hx, hg⟩
    replace h3 := h3.stp sw109 (frw109 b3 h3.lt (fun g => d_hx_h3 _ g rfl))
    replace h4 := h4.stp sw109 (frw109 b4 h4.lt (fun g => d_hx_h4 _ g rfl))
    replace hE := hE.trans sw109.below
    replace ht := Rep.stp ht sw109
    replace ha := Rep.stp ha sw109
    replace hk := hk.stp sw109
    replace h1 := h1.stp sw109
    replace hd := Rep.stp hd sw109
    replace had := Rep.stp had sw109
    replace hkd := hkd.stp sw109
    replace h5 := h5.stp sw109
    replace hsub := sw109.sb hsub
    replace hlow := sw109.low
    replace hB := sw109.z hB
    refine q1 (q0 ?_)
    refine lC (o_lds tK (fun j v hv => h4.cell j v hv) rfl rfl rfl rfl rfl rfl ?_)
    refine lC (o_lds tK (fun j v hv => h1.cell j v hv) rfl rfl rfl rfl rfl rfl ?_)
    have hal20 := alikeM_spec t t NoM w109 _ _ (Rep.wk hd (fun _ _ h => h.elim)) (Rep.wk ht (fun _ _ h => h.elim)) (low_noM _)
    rw [cl_true rfl] at hal20
    refine lC (o_call fo37 rfl rfl rfl (hal20) ?_)
    rintro _ w110 ⟨rfl, ew110⟩
    replace h3 := h3.ext hlow hB ew110
    replace h4 := h4.ext hlow hB ew110
    replace hE := ew110.bl hE hB
    replace ht := Rep.ext ht ew110
    replace ha := Rep.ext ha ew110
    replace hk := hk.ext ew110
    replace h1 := h1.ext ew110
    replace hd := Rep.ext hd ew110
    replace had := Rep.ext had ew110
    replace hkd := hkd.ext ew110
    replace h5 := h5.ext ew110
    replace hlow := hlow.ext ew110
    replace hB := ew110.z hB
    refine l_p 1 tK rfl (q1 (c_ret (x_ret1 rfl rfl ?_)))
    exact ⟨rfl, hE⟩
  refine o_new tK rfl rfl rfl ?_
  intro b4 w111 qb4 ew111 hb4
  have gS_b4 := Nat.le_trans hS.size (Nat.le_of_eq qb4.symm)
  replace hS := hS.then ew111
  have sw111 := Stp.add ew111 hlow hB (Nat.le_of_eq qb4.symm) hb4.lt
  have h4 : MB w.heap.size (Rw.Add M b4) w111 b4 84 [.int .u8 0, .string ⟨#[]⟩, .string ⟨#[]⟩, .int .i64 0, .bool false, .int .u8 0, .string ⟨#[]⟩, .int .i64 0, .slice none 0 0, .slice none 0 0] := MB.mk' hb4 qb4 hB
  replace hE := hE.trans sw111.below
  replace ht := Rep.stp ht sw111
  replace ha := Rep.stp ha sw111
  replace hk := hk.stp sw111
  replace h1 := h1.stp sw111
  replace hsub := sw111.sb hsub
  replace hlow := sw111.low
  replace hB := sw111.z hB
  refine ⟨hS, ?_⟩
  refine a_all [1, 4] (by kernel_rfl) rfl (all_cons (i := 1) rfl ?_ (all_cons (i := 4) rfl ?_ all_nil))
  · have l_h4 := h4.lt
    refine o_call fo49 rfl rfl rfl (copyM_own t _ _ _ ht hlow hz hns) ?_
    rintro vc w112 ⟨hc, ew112⟩
    replace hc := hc.ge hB
    have hGl : ∀ c, Plus NoM w111 w112 c → w111.heap.size ≤ c ∧ c < w112.heap.size := fun c h => h.elim (fun h => h.elim) id
    generalize Plus NoM w111 w112 = G at hc hGl
    have sw112 := (Stp.ext ew112 hlow hB).more hGl
    replace hS := hS.then ew112
    replace h4 := h4.stp sw112 (ew112.block b4 h4.lt)
    replace hE := hE.trans sw112.below
    replace ht := Rep.stp ht sw112
    replace ha := Rep.stp ha sw112
    replace hk := hk.stp sw112
    replace h1 := h1.stp sw112
    replace hsub := sw112.sb hsub
    replace hlow := sw112.low
    replace hB := sw112.z hB
    refine ⟨hS, ?_⟩
    have d_hc_h4 : ∀ x, G x → x ≠ b4 := fun x hx => by have := (hGl x hx).1; omega
    obtain ⟨akvc, kvc, usc, Hc, FAc, rfl, hoac, hklc, hrc, hOc, hHc, hAc⟩ := otm_open hc
    refine a_all [3, 4] (by kernel_rfl) rfl (all_cons (i := 3) rfl ?_ (all_cons (i := 4) rfl ?_ all_nil))
    · refine o_call fo49 rfl rfl rfl (copyM_spec t _ _ _ ht hlow hz hns) ?_
      rintro vhd w113 ⟨hd, ew113⟩
      replace hS := hS.then ew113
      replace h4 := h4.ext hlow hB ew113
      replace hc := hc.ext hlow hB ew113
      replace hE := ew113.bl hE hB
      replace ht := Rep.ext ht ew113
      replace ha := Rep.ext ha ew113
      replace hk := hk.ext ew113
      replace h1 := h1.ext ew113
      replace hlow := hlow.ext ew113
      replace hB := ew113.z hB
      refine ⟨hS, ?_⟩
      obtain ⟨akvd, kvd, rfl, opd, nmd, agd, n64d, had, hkd⟩ := tm_open hd
      refine a_one 4 rfl (by kernel_rfl) (o_new tK rfl rfl rfl ?_)
      intro b3 w114 qb3 ew114 hb3
      have gS_b3 := Nat.le_trans hS.size (Nat.le_of_eq qb3.symm)
      replace hS := hS.then ew114
      have ne_h4_h3 : b4 ≠ b3 := by have := h4.lt; omega
      have d_hc_h3 : ∀ x, G x → x ≠ b3 := fun x hx => by have := (hc.lt x hx).2; omega
      have sw114 := Stp.add ew114 hlow hB (Nat.le_of_eq qb3.symm) hb3.lt
      have h3 : MB w.heap.size (Rw.Add (Or2 (Rw.Add M b4) G) b3) w114 b3 84 [.int .u8 0, .string ⟨#[]⟩, .string ⟨#[]⟩, .int .i64 0, .bool false, .int .u8 0, .string ⟨#[]⟩, .int .i64 0, .slice none 0 0, .slice none 0 0] := MB.mk' hb3 qb3 hB
      replace h4 := h4.stp sw114 (ew114.block b4 h4.lt)
      replace hc := hc.stp sw114 (fun x hx => ew114.block x (hc.lt x hx).2)
      replace hE := hE.trans sw114.below
      replace ht := Rep.stp ht sw114
      replace ha := Rep.stp ha sw114
      replace hk := hk.stp sw114
      replace h1 := h1.stp sw114
      replace hd := Rep.stp hd sw114
      replace had := Rep.stp had sw114
      replace hkd := hkd.stp sw114
      replace hsub := sw114.sb hsub
      replace hlow := sw114.low
      replace hB := sw114.z hB
      refine ⟨hS, ?_⟩
      refine a_barS Ext 6 rfl (by kernel_rfl) (by kernel_rfl) (o_st tK h3.box rfl rfl rfl rfl hc.one rfl rfl ?_)
      intro w115 hw115 qw115 bew115
      have uw115 : UpdB _ _ _ := ⟨qw115, bew115⟩
      have sw115 := uw115.stp h3.inM hlow h3.ge
      have frw115 := qw115.2
      replace h4 := h4.stp sw115 (frw115 b4 h4.lt ne_h4_h3)
      replace hc := hc.stp sw115 (fun x hx => frw115 x (hc.lt x hx).2 (d_hc_h3 x hx))
      replace hE := hE.trans sw115.below
      replace ht := Rep.stp ht sw115
      replace ha := Rep.stp ha sw115
      replace hk := hk.stp sw115
      replace h1 := h1.stp sw115
      replace hd := Rep.stp hd sw115
      replace had := Rep.stp had sw115
      replace hkd := hkd.stp sw115
      replace hsub := sw115.sb hsub
      replace hlow := sw115.low
      replace hB := sw115.z hB
      replace hS : Ext w115 w115 := ext_refl _
      replace h3 : MB w.heap.size _ w115 b3 _ [.int .u8 t.op, .string t.name, .string t.arg, .int .i64 t.n, .bool t.has, .int .u8 t.ann.op, .string t.ann.name, .int .i64 t.ann.n, akvc, kvc] := ⟨hw115, h3.inM, h3.ge⟩
      have D_hk := hk
      have D_h1 := h1
      have D_h4 := h4.box
      have D_hkd := hkd
      have D_h3 := h3.box
      refine a_barS Ext 7 rfl (by kernel_rfl) (by kernel_rfl) (o_st tK h4.box rfl rfl rfl rfl (Rep.one hd) rfl rfl ?_)
      intro w116 hw116 qw116 bew116
      have uw116 : UpdB _ _ _ := ⟨qw116, bew116⟩
      have sw116 := uw116.stp h4.inM hlow h4.ge
      have frw116 := qw116.2
      replace hc := hc.stp sw116 (fun x hx => frw116 x (hc.lt x hx).2 (d_hc_h4 x hx))
      replace h3 := h3.stp sw116 (frw116 b3 h3.lt ne_h4_h3.symm)
      replace hE := hE.trans sw116.below
      replace ht := Rep.stp ht sw116
      replace ha := Rep.stp ha sw116
      replace hk := hk.stp sw116
      replace h1 := h1.stp sw116
      replace hd := Rep.stp hd sw116
      replace had := Rep.stp had sw116
      replace hkd := hkd.stp sw116
      replace hsub := sw116.sb hsub
      replace hlow := sw116.low
      replace hB := sw116.z hB
      replace hS : Ext w116 w116 := ext_refl _
      replace h4 : MB w.heap.size _ w116 b4 _ [.int .u8 t.op, .string t.name, .string t.arg, .int .i64 t.n, .bool t.has, .int .u8 t.ann.op, .string t.ann.name, .int .i64 t.ann.n, akvd, kvd] := ⟨hw116, h4.inM, h4.ge⟩
      have D_hk := hk
      have D_h1 := h1
      have D_h4 := h4.box
      have D_hkd := hkd
      have D_h3 := h3.box
      refine a_end (by kernel_rfl) ?_
      refine x_seq (c_seq (q0 ?_))
      refine lC (o_lds tK (fun j v hv => h3.cell j v hv) rfl rfl rfl rfl rfl rfl ?_)
      refine lC (o_lds tK (fun j v hv => h1.cell j v hv) rfl rfl rfl rfl rfl rfl ?_)
      have hal21 := alikeM_spec t t NoM w116 _ _ (hc.rep (M := NoM) (fun _ _ h => h)) (Rep.wk ht (fun _ _ h => h.elim)) (low_noM _)
      rw [cl_true rfl] at hal21
      refine lC (o_call fo37 rfl rfl rfl (hal21) ?_)
      rintro _ w117 ⟨rfl, ew117⟩
      replace h4 := h4.ext hlow hB ew117
      replace hc := hc.ext hlow hB ew117
      replace h3 := h3.ext hlow hB ew117
      replace hE := ew117.bl hE hB
      replace ht := Rep.ext ht ew117
      replace ha := Rep.ext ha ew117
      replace hk := hk.ext ew117
      replace h1 := h1.ext ew117
      replace hd := Rep.ext hd ew117
      replace had := Rep.ext had ew117
      replace hkd := hkd.ext ew117
      replace hlow := hlow.ext ew117
      replace hB := ew117.z hB
      refine l_p 1 tK rfl (q1 (c_ifF rfl (c_skip (x_seq (q0 ?_)))))
      refine lC (o_lds tK (fun j v hv => h3.cell j v hv) rfl rfl rfl rfl rfl rfl ?_)
      refine lC (o_call fo50 rfl rfl rfl (spoil_spec t (Rw.Add (Or2 (Rw.Add M b4) G) b3) _ w.heap.size _ G hc (fun c hc => by first | exact .inr hc | exact .inl (.inr hc) | exact .inl (.inl (.inr hc))) hlow hB) ?_)
      rintro _ w118 ⟨rfl, sw118, kw118⟩
      have frw118 : ∀ x, x < w117.heap.size → ¬ G x → w118.heap[x]? = w117.heap[x]? := fun x hx hg => kw118.blk x ⟨hx, hg⟩
      replace h4 := h4.stp sw118 (frw118 b4 h4.lt (fun g => d_hc_h4 _ g rfl))
      replace h3 := h3.stp sw118 (frw118 b3 h3.lt (fun g => d_hc_h3 _ g rfl))
      replace hE := hE.trans sw118.below
      replace ht := Rep.stp ht sw118
      replace ha := Rep.stp ha sw118
      replace hk := hk.stp sw118
      replace h1 := h1.stp sw118
      replace hd := Rep.stp hd sw118
      replace had := Rep.stp had sw118
      replace hkd := hkd.stp sw118
      replace hsub := sw118.sb hsub
      replace hlow := sw118.low
      replace hB := sw118.z hB
      refine q1 (q0 ?_)
      refine lC (o_lds tK (fun j v hv => h1.cell j v hv) rfl rfl rfl rfl rfl rfl ?_)
      have l_h4 := h4.lt
      have l_h3 := h3.lt
      refine lC (o_call fo51 rfl rfl rfl (node0_own t _ _ _ ht hlow hz hns) ?_)
      rintro _ w119 ⟨⟨vx, rfl, hx⟩, ew119⟩
      replace hx := hx.ge hB
      have hGX : ∀ c, Plus NoM w118 w119 c → w118.heap.size ≤ c ∧ c < w119.heap.size := fun c h => h.elim (fun h => h.elim) id
      generalize Plus NoM w118 w119 = GX at hx hGX
      have sw119 := (Stp.ext ew119 hlow hB).more hGX
      replace h4 := h4.stp sw119 (ew119.block b4 h4.lt)
      replace h3 := h3.stp sw119 (ew119.block b3 h3.lt)
      replace hE := hE.trans sw119.below
      replace ht := Rep.stp ht sw119
      replace ha := Rep.stp ha sw119
      replace hk := hk.stp sw119
      replace h1 := h1.stp sw119
      replace hd := Rep.stp hd sw119
      replace had := Rep.stp had sw119
      replace hkd := hkd.stp sw119
      replace hsub := sw119.sb hsub
      replace hlow := sw119.low
      replace hB := sw119.z hB
      have d_hx_h4 : ∀ x, GX x → x ≠ b4 := fun x hx => by have := (hGX x hx).1; omega
      have d_hx_h3 : ∀ x, GX x → x ≠ b3 := fun x hx => by have := (hGX x hx).1; omega
      obtain ⟨akvx, kvx, usx, Hx, FAx, rfl, hoax, hklx, hrx, hOx, hHx, hAx⟩ := otm_open hx
      refine l_p 3 tK rfl ?_
      refine lC (o_new tK rfl rfl rfl ?_)
      intro b5 w120 qb5 ew120 hb5
      have nb5 := nM_of hlow qb5
      refine lC (o_st tK hb5 rfl rfl rfl rfl hx.one rfl rfl ?_)
      intro w121 h5 uw121 bew121
      have ew121 : Ext w119 w121 := ew120.trans (bew121 _ (Nat.le_of_eq qb5.symm))
      replace h4 := h4.ext hlow hB ew121
      replace h3 := h3.ext hlow hB ew121
      replace hx := hx.ext hlow hB ew121
      replace hE := ew121.bl hE hB
      replace ht := Rep.ext ht ew121
      replace ha := Rep.ext ha ew121
      replace hk := hk.ext ew121
      replace h1 := h1.ext ew121
      replace hd := Rep.ext hd ew121
      replace had := Rep.ext had ew121
      replace hkd := hkd.ext ew121
      replace hlow := hlow.ext ew121
      replace hB := ew121.z hB
      replace h5 : Box w121 b5 84 [.int .u8 t.op, .string t.name, .string t.arg, .int .i64 t.n, .bool t.has, .int .u8 t.ann.op, .string t.ann.name, .int .i64 t.ann.n, akvx, kvx] := h5
      replace h5 := h5.at nb5
      refine l_p 1 tK rfl (q1 (q0 ?_))
      refine lC (o_lds tK (fun j v hv => h5.cell j v hv) rfl rfl rfl rfl rfl rfl ?_)
      refine lC (o_call fo50 rfl rfl rfl (spoil_spec t (Or2 (Rw.Add (Or2 (Rw.Add M b4) G) b3) GX) _ w.heap.size _ GX hx (fun c hc => by first | exact .inr hc | exact .inl (.inr hc) | exact .inl (.inl (.inr hc))) hlow hB) ?_)
      rintro _ w122 ⟨rfl, sw122, kw122⟩
      have frw122 : ∀ x, x < w121.heap.size → ¬ GX x → w122.heap[x]? = w121.heap[x]? := fun x hx hg => kw122.blk x ⟨hx, hg⟩
      replace h4 := h4.stp sw122 (frw122 b4 h4.lt (fun g => d_hx_h4 _ g rfl))
      replace h3 := h3.stp sw122 (frw122 b3 h3.lt (fun g => d_hx_h3 _ g rfl))
      replace hE := hE.trans sw122.below
      replace ht := Rep.stp ht sw122
      replace ha := Rep.stp ha sw122
      replace hk := hk.stp sw122
      replace h1 := h1.stp sw122
      replace hd := Rep.stp hd sw122
      replace had := Rep.stp had sw122
      replace hkd := hkd.stp sw122
      replace h5 := h5.stp sw122
      replace hsub := sw122.sb hsub
      replace hlow := sw122.low
      replace hB := sw122.z hB
      refine q1 (q0 ?_)
      refine lC (o_lds tK (fun j v hv => h4.cell j v hv) rfl rfl rfl rfl rfl rfl ?_)
      refine lC (o_lds tK (fun j v hv => h1.cell j v hv) rfl rfl rfl rfl rfl rfl ?_)
      have hal22 := alikeM_spec t t NoM w122 _ _ (Rep.wk hd (fun _ _ h => h.elim)) (Rep.wk ht (fun _ _ h => h.elim)) (low_noM _)
      rw [cl_true rfl] at hal22
      refine lC (o_call fo37 rfl rfl rfl (hal22) ?_)
      rintro _ w123 ⟨rfl, ew123⟩
      replace h4 := h4.ext hlow hB ew123
      replace h3 := h3.ext hlow hB ew123
      replace hE := ew123.bl hE hB
      replace ht := Rep.ext ht ew123
      replace ha := Rep.ext ha ew123
      replace hk := hk.ext ew123
      replace h1 := h1.ext ew123
      replace hd := Rep.ext hd ew123
      replace had := Rep.ext had ew123
      replace hkd := hkd.ext ew123
      replace h5 := h5.ext ew123
      replace hlow := hlow.ext ew123
      replace hB := ew123.z hB
      refine l_p 1 tK rfl (q1 (c_ret (x_ret1 rfl rfl ?_)))
      exact ⟨rfl, hE⟩
    refine o_new tK rfl rfl rfl ?_
    intro b3 w124 qb3 ew124 hb3
    have gS_b3 := Nat.le_trans hS.size (Nat.le_of_eq qb3.symm)
    replace hS := hS.then ew124
    have ne_h4_h3 : b4 ≠ b3 := by have := h4.lt; omega
    have d_hc_h3 : ∀ x, G x → x ≠ b3 := fun x hx => by have := (hc.lt x hx).2; omega
    have sw124 := Stp.add ew124 hlow hB (Nat.le_of_eq qb3.symm) hb3.lt
    have h3 : MB w.heap.size (Rw.Add (Or2 (Rw.Add M b4) G) b3) w124 b3 84 [.int .u8 0, .string ⟨#[]⟩, .string ⟨#[]⟩, .int .i64 0, .bool false, .int .u8 0, .string ⟨#[]⟩, .int .i64 0, .slice none 0 0, .slice none 0 0] := MB.mk' hb3 qb3 hB
    replace h4 := h4.stp sw124 (ew124.block b4 h4.lt)
    replace hc := hc.stp sw124 (fun x hx => ew124.block x (hc.lt x hx).2)
    replace hE := hE.trans sw124.below
    replace ht := Rep.stp ht sw124
    replace ha := Rep.stp ha sw124
    replace hk := hk.stp sw124
    replace h1 := h1.stp sw124
    replace hsub := sw124.sb hsub
    replace hlow := sw124.low
    replace hB := sw124.z hB
    refine ⟨hS, ?_⟩
    refine a_one 3 rfl (by kernel_rfl) (o_call fo49 rfl rfl rfl (copyM_spec t _ _ _ ht hlow hz hns) ?_)
    rintro vhd w125 ⟨hd, ew125⟩
    replace hS := hS.then ew125
    replace h4 := h4.ext hlow hB ew125
    replace hc := hc.ext hlow hB ew125
    replace h3 := h3.ext hlow hB ew125
    replace hE := ew125.bl hE hB
    replace ht := Rep.ext ht ew125
    replace ha := Rep.ext ha ew125
    replace hk := hk.ext ew125
    replace h1 := h1.ext ew125
    replace hlow := hlow.ext ew125
    replace hB := ew125.z hB
    refine ⟨hS, ?_⟩
    obtain ⟨akvd, kvd, rfl, opd, nmd, agd, n64d, had, hkd⟩ := tm_open hd
    refine a_barS Ext 6 rfl (by kernel_rfl) (by kernel_rfl) (o_st tK h3.box rfl rfl rfl rfl hc.one rfl rfl ?_)
    intro w126 hw126 qw126 bew126
    have uw126 : UpdB _ _ _ := ⟨qw126, bew126⟩
    have sw126 := uw126.stp h3.inM hlow h3.ge
    have frw126 := qw126.2
    replace h4 := h4.stp sw126 (frw126 b4 h4.lt ne_h4_h3)
    replace hc := hc.stp sw126 (fun x hx => frw126 x (hc.lt x hx).2 (d_hc_h3 x hx))
    replace hE := hE.trans sw126.below
    replace ht := Rep.stp ht sw126
    replace ha := Rep.stp ha sw126
    replace hk := hk.stp sw126
    replace h1 := h1.stp sw126
    replace hd := Rep.stp hd sw126
    replace had := Rep.stp had sw126
    replace hkd := hkd.stp sw126
    replace hsub := sw126.sb hsub
    replace hlow := sw126.low
    replace hB := sw126.z hB
    replace hS : Ext w126 w126 := ext_refl _
    replace h3 : MB w.heap.size _ w126 b3 _ [.int .u8 t.op, .string t.name, .string t.arg, .int .i64 t.n, .bool t.has, .int .u8 t.ann.op, .string t.ann.name, .int .i64 t.ann.n, akvc, kvc] := ⟨hw126, h3.inM, h3.ge⟩
    have D_hk := hk
    have D_h1 := h1
    have D_h4 := h4.box
    have D_h3 := h3.box
    have D_hkd := hkd
    refine a_barS Ext 7 rfl (by kernel_rfl) (by kernel_rfl) (o_st tK h4.box rfl rfl rfl rfl (Rep.one hd) rfl rfl ?_)
    intro w127 hw127 qw127 bew127
    have uw127 : UpdB _ _ _ := ⟨qw127, bew127⟩
    have sw127 := uw127.stp h4.inM hlow h4.ge
    have frw127 := qw127.2
    replace hc := hc.stp sw127 (fun x hx => frw127 x (hc.lt x hx).2 (d_hc_h4 x hx))
    replace h3 := h3.stp sw127 (frw127 b3 h3.lt ne_h4_h3.symm)
    replace hE := hE.trans sw127.below
    replace ht := Rep.stp ht sw127
    replace ha := Rep.stp ha sw127
    replace hk := hk.stp sw127
    replace h1 := h1.stp sw127
    replace hd := Rep.stp hd sw127
    replace had := Rep.stp had sw127
    replace hkd := hkd.stp sw127
    replace hsub := sw127.sb hsub
    replace hlow := sw127.low
    replace hB := sw127.z hB
    replace hS : Ext w127 w127 := ext_refl _
    replace h4 : MB w.heap.size _ w127 b4 _ [.int .u8 t.op, .string t.name, .string t.arg, .int .i64 t.n, .bool t.has, .int .u8 t.ann.op, .string t.ann.name, .int .i64 t.ann.n, akvd, kvd] := ⟨hw127, h4.inM, h4.ge⟩
    have D_hk := hk
    have D_h1 := h1
    have D_h4 := h4.box
    have D_h3 := h3.box
    have D_hkd := hkd
    refine a_end (by kernel_rfl) ?_
    refine x_seq (c_seq (q0 ?_))
    refine lC (o_lds tK (fun j v hv => h3.cell j v hv) rfl rfl rfl rfl rfl rfl ?_)
    refine lC (o_lds tK (fun j v hv => h1.cell j v hv) rfl rfl rfl rfl rfl rfl ?_)
    have hal23 := alikeM_spec t t NoM w127 _ _ (hc.rep (M := NoM) (fun _ _ h => h)) (Rep.wk ht (fun _ _ h => h.elim)) (low_noM _)
    rw [cl_true rfl] at hal23
    refine lC (o_call fo37 rfl rfl rfl (hal23) ?_)
    rintro _ w128 ⟨rfl, ew128⟩
    replace h4 := h4.ext hlow hB ew128
    replace hc := hc.ext hlow hB ew128
    replace h3 := h3.ext hlow hB ew128
    replace hE := ew128.bl hE hB
    replace ht := Rep.ext ht ew128
    replace ha := Rep.ext ha ew128
    replace hk := hk.ext ew128
    replace h1 := h1.ext ew128
    replace hd := Rep.ext hd ew128
    replace had := Rep.ext had ew128
    replace hkd := hkd.ext ew128
    replace hlow := hlow.ext ew128
    replace hB := ew128.z hB
    refine l_p 1 tK rfl (q1 (c_ifF rfl (c_skip (x_seq (q0 ?_)))))
    refine lC (o_lds tK (fun j v hv => h3.cell j v hv) rfl rfl rfl rfl rfl rfl ?_)
    refine lC (o_call fo50 rfl rfl rfl (spoil_spec t (Rw.Add (Or2 (Rw.Add M b4) G) b3) _ w.heap.size _ G hc (fun c hc => by first | exact .inr hc | exact .inl (.inr hc) | exact .inl (.inl (.inr hc))) hlow hB) ?_)
    rintro _ w129 ⟨rfl, sw129, kw129⟩
    have frw129 : ∀ x, x < w128.heap.size → ¬ G x → w129.heap[x]? = w128.heap[x]? := fun x hx hg => kw129.blk x ⟨hx, hg⟩
    replace h4 := h4.stp sw129 (frw129 b4 h4.lt (fun g => d_hc_h4 _ g rfl))
    replace h3 := h3.stp sw129 (frw129 b3 h3.lt (fun g => d_hc_h3 _ g rfl))
    replace hE := hE.trans sw129.below
    replace ht := Rep.stp ht sw129
    replace ha := Rep.stp ha sw129
    replace hk := hk.stp sw129
    replace h1 := h1.stp sw129
    replace hd := Rep.stp hd sw129
    replace had := Rep.stp had sw129
    replace hkd := hkd.stp sw129
    replace hsub := sw129.sb hsub
    replace hlow := sw129.low
    replace hB := sw129.z hB
    refine q1 (q0 ?_)
    refine lC (o_lds tK (fun j v hv => h1.cell j v hv) rfl rfl rfl rfl rfl rfl ?_)
    have l_h4 := h4.lt
    have l_h3 := h3.lt
    refine lC (o_call fo51 rfl rfl rfl (node0_own t _ _ _ ht hlow hz hns) ?_)
    rintro _ w130 ⟨⟨vx, rfl, hx⟩, ew130⟩
    replace hx := hx.ge hB
    have hGX : ∀ c, Plus NoM w129 w130 c → w129.heap.size ≤ c ∧ c < w130.heap.size := fun c h => h.elim (fun h => h.elim) id
    generalize Plus NoM w129 w130 = GX at hx hGX
    have sw130 := (Stp.ext ew130 hlow hB).more hGX
    replace h4 := h4.stp sw130 (ew130.block b4 h4.lt)
    replace h3 := h3.stp sw130 (ew130.block b3 h3.lt)
    replace hE := hE.trans sw130.below
    replace ht := Rep.stp ht sw130
    replace ha := Rep.stp ha sw130
    replace hk := hk.stp sw130
    replace h1 := h1.stp sw130
    replace hd := Rep.stp hd sw130
    replace had := Rep.stp had sw130
    replace hkd := hkd.stp sw130
    replace hsub := sw130.sb hsub
    replace hlow := sw130.low
    replace hB := sw130.z hB
    have d_hx_h4 : ∀ x, GX x → x ≠ b4 := fun x hx => by have := (hGX x hx).1; omega
    have d_hx_h3 : ∀ x, GX x → x ≠ b3 := fun x hx => by have := (hGX x hx).1; omega
    obtain ⟨akvx, kvx, usx, Hx, FAx, rfl, hoax, hklx, hrx, hOx, hHx, hAx⟩ := otm_open hx
    refine l_p 3 tK rfl ?_
    refine lC (o_new tK rfl rfl rfl ?_)
    intro b5 w131 qb5 ew131 hb5
    have nb5 := nM_of hlow qb5
    refine lC (o_st tK hb5 rfl rfl rfl rfl hx.one rfl rfl ?_)
    intro w132 h5 uw132 bew132
    have ew132 : Ext w130 w132 := ew131.trans (bew132 _ (Nat.le_of_eq qb5.symm))
    replace h4 := h4.ext hlow hB ew132
    replace h3 := h3.ext hlow hB ew132
    replace hx := hx.ext hlow hB ew132
    replace hE := ew132.bl hE hB
    replace ht := Rep.ext ht ew132
    replace ha := Rep.ext ha ew132
    replace hk := hk.ext ew132
    replace h1 := h1.ext ew132
    replace hd := Rep.ext hd ew132
    replace had := Rep.ext had ew132
    replace hkd := hkd.ext ew132
    replace hlow := hlow.ext ew132
    replace hB := ew132.z hB
    replace h5 : Box w132 b5 84 [.int .u8 t.op, .string t.name, .string t.arg, .int .i64 t.n, .bool t.has, .int .u8 t.ann.op, .string t.ann.name, .int .i64 t.ann.n, akvx, kvx] := h5
    replace h5 := h5.at nb5
    refine l_p 1 tK rfl (q1 (q0 ?_))
    refine lC (o_lds tK (fun j v hv => h5.cell j v hv) rfl rfl rfl rfl rfl rfl ?_)
    refine lC (o_call fo50 rfl rfl rfl (spoil_spec t (Or2 (Rw.Add (Or2 (Rw.Add M b4) G) b3) GX) _ w.heap.size _ GX hx (fun c hc => by first | exact .inr hc | exact .inl (.inr hc) | exact .inl (.inl (.inr hc))) hlow hB) ?_)
    rintro _ w133 ⟨rfl, sw133, kw133⟩
    have frw133 : ∀ x, x < w132.heap.size → ¬ GX x → w133.heap[x]? = w132.heap[x]? := fun x hx hg => kw133.blk x ⟨hx, hg⟩
    replace h4 := h4.stp sw133 (frw133 b4 h4.lt (fun g => d_hx_h4 _ g rfl))
    replace h3 := h3.stp sw133 (frw133 b3 h3.lt (fun g => d_hx_h3 _ g rfl))
    replace hE := hE.trans sw133.below
    replace ht := Rep.stp ht sw133
    replace ha := Rep.stp ha sw133
    replace hk := hk.stp sw133
    replace h1 := h1.stp sw133
    replace hd := Rep.stp hd sw133
    replace had := Rep.stp had sw133
    replace hkd := hkd.stp sw133
    replace h5 := h5.stp sw133
    replace hsub := sw133.sb hsub
    replace hlow := sw133.low
    replace hB := sw133.z hB
    refine q1 (q0 ?_)
    refine lC (o_lds tK (fun j v hv => h4.cell j v hv) rfl rfl rfl rfl rfl rfl ?_)
    refine lC (o_lds tK (fun j v hv => h1.cell j v hv) rfl rfl rfl rfl rfl rfl ?_)
    have hal24 := alikeM_spec t t NoM w133 _ _ (Rep.wk hd (fun _ _ h => h.elim)) (Rep.wk ht (fun _ _ h => h.elim)) (low_noM _)
    rw [cl_true rfl] at hal24
    refine lC (o_call fo37 rfl rfl rfl (hal24) ?_)
    rintro _ w134 ⟨rfl, ew134⟩
    replace h4 := h4.ext hlow hB ew134
    replace h3 := h3.ext hlow hB ew134
    replace hE := ew134.bl hE hB
    replace ht := Rep.ext ht ew134
    replace ha := Rep.ext ha ew134
    replace hk := hk.ext ew134
    replace h1 := h1.ext ew134
    replace hd := Rep.ext hd ew134
    replace had := Rep.ext had ew134
    replace hkd := hkd.ext ew134
    replace h5 := h5.ext ew134
    replace hlow := hlow.ext ew134
    replace hB := ew134.z hB
    refine l_p 1 tK rfl (q1 (c_ret (x_ret1 rfl rfl ?_)))
    exact ⟨rfl, hE⟩
  refine o_new tK rfl rfl rfl ?_
  intro b3 w135 qb3 ew135 hb3
  have gS_b3 := Nat.le_trans hS.size (Nat.le_of_eq qb3.symm)
  replace hS := hS.then ew135
  have ne_h4_h3 : b4 ≠ b3 := by have := h4.lt; omega
  have sw135 := Stp.add ew135 hlow hB (Nat.le_of_eq qb3.symm) hb3.lt
  have h3 : MB w.heap.size (Rw.Add (Rw.Add M b4) b3) w135 b3 84 [.int .u8 0, .string ⟨#[]⟩, .string ⟨#[]⟩, .int .i64 0, .bool false, .int .u8 0, .string ⟨#[]⟩, .int .i64 0, .slice none 0 0, .slice none 0 0] := MB.mk' hb3 qb3 hB
  replace h4 := h4.stp sw135 (ew135.block b4 h4.lt)
  replace hE := hE.trans sw135.below
  replace ht := Rep.stp ht sw135
  replace ha := Rep.stp ha sw135
  replace hk := hk.stp sw135
  replace h1 := h1.stp sw135
  replace hsub := sw135.sb hsub
  replace hlow := sw135.low
  replace hB := sw135.z hB
  refine ⟨hS, ?_⟩
  have l_h4 := h4.lt
  have l_h3 := h3.lt
  refine a_one 1 rfl (by kernel_rfl) (o_call fo49 rfl rfl rfl (copyM_own t _ _ _ ht hlow hz hns) ?_)
  rintro vc w136 ⟨hc, ew136⟩
  replace hc := hc.ge hB
  have hGl : ∀ c, Plus NoM w135 w136 c → w135.heap.size ≤ c ∧ c < w136.heap.size := fun c h => h.elim (fun h => h.elim) id
  generalize Plus NoM w135 w136 = G at hc hGl
  have sw136 := (Stp.ext ew136 hlow hB).more hGl
  replace hS := hS.then ew136
  replace h4 := h4.stp sw136 (ew136.block b4 h4.lt)
  replace h3 := h3.stp sw136 (ew136.block b3 h3.lt)
  replace hE := hE.trans sw136.below
  replace ht := Rep.stp ht sw136
  replace ha := Rep.stp ha sw136
  replace hk := hk.stp sw136
  replace h1 := h1.stp sw136
  replace hsub := sw136.sb hsub
  replace hlow := sw136.low
  replace hB := sw136.z hB
  refine ⟨hS, ?_⟩
  have d_hc_h4 : ∀ x, G x → x ≠ b4 := fun x hx => by have := (hGl x hx).1; omega
  have d_hc_h3 : ∀ x, G x → x ≠ b3 := fun x hx => by have := (hGl x hx).1; omega
  obtain ⟨akvc, kvc, usc, Hc, FAc, rfl, hoac, hklc, hrc, hOc, hHc, hAc⟩ := otm_open hc
  refine a_one 3 rfl (by kernel_rfl) (o_call fo49 rfl rfl rfl (copyM_spec t _ _ _ ht hlow hz hns) ?_)
  rintro vhd w137 ⟨hd, ew137⟩
  replace hS := hS.then ew137
  replace h4 := h4.ext hlow hB ew137
  replace h3 := h3.ext hlow hB ew137
  replace hc := hc.ext hlow hB ew137
  replace hE := ew137.bl hE hB
  replace ht := Rep.ext ht ew137
  replace ha := Rep.ext ha ew137
  replace hk := hk.ext ew137
  replace h1 := h1.ext ew137
  replace hlow := hlow.ext ew137
  replace hB := ew137.z hB
  refine ⟨hS, ?_⟩
  obtain ⟨akvd, kvd, rfl, opd, nmd, agd, n64d, had, hkd⟩ := tm_open hd
  refine a_barS Ext 6 rfl (by kernel_rfl) (by kernel_rfl) (o_st tK h3.box rfl rfl rfl rfl hc.one rfl rfl ?_)
  intro w138 hw138 qw138 bew138
  have uw138 : UpdB _ _ _ := ⟨qw138, bew138⟩
  have sw138 := uw138.stp h3.inM hlow h3.ge
  have frw138 := qw138.2
  replace h4 := h4.stp sw138 (frw138 b4 h4.lt ne_h4_h3)
  replace hc := hc.stp sw138 (fun x hx => frw138 x (hc.lt x hx).2 (d_hc_h3 x hx))
  replace hE := hE.trans sw138.below
  replace ht := Rep.stp ht sw138
  replace ha := Rep.stp ha sw138
  replace hk := hk.stp sw138
  replace h1 := h1.stp sw138
  replace hd := Rep.stp hd sw138
  replace had := Rep.stp had sw138
  replace hkd := hkd.stp sw138
  replace hsub := sw138.sb hsub
  replace hlow := sw138.low
  replace hB := sw138.z hB
  replace hS : Ext w138 w138 := ext_refl _
  replace h3 : MB w.heap.size _ w138 b3 _ [.int .u8 t.op, .string t.name, .string t.arg, .int .i64 t.n, .bool t.has, .int .u8 t.ann.op, .string t.ann.name, .int .i64 t.ann.n, akvc, kvc] := ⟨hw138, h3.inM, h3.ge⟩
  have D_hk := hk
  have D_h1 := h1
  have D_h4 := h4.box
  have D_h3 := h3.box
  have D_hkd := hkd
  refine a_barS Ext 7 rfl (by kernel_rfl) (by kernel_rfl) (o_st tK h4.box rfl rfl rfl rfl (Rep.one hd) rfl rfl ?_)
  intro w139 hw139 qw139 bew139
  have uw139 : UpdB _ _ _ := ⟨qw139, bew139⟩
  have sw139 := uw139.stp h4.inM hlow h4.ge
  have frw139 := qw139.2
  replace h3 := h3.stp sw139 (frw139 b3 h3.lt ne_h4_h3.symm)
  replace hc := hc.stp sw139 (fun x hx => frw139 x (hc.lt x hx).2 (d_hc_h4 x hx))
  replace hE := hE.trans sw139.below
  replace ht := Rep.stp ht sw139
  replace ha := Rep.stp ha sw139
  replace hk := hk.stp sw139
  replace h1 := h1.stp sw139
  replace hd := Rep.stp hd sw139
  replace had := Rep.stp had sw139
  replace hkd := hkd.stp sw139
  replace hsub := sw139.sb hsub
  replace hlow := sw139.low
  replace hB := sw139.z hB
  replace hS : Ext w139 w139 := ext_refl _
  replace h4 : MB w.heap.size _ w139 b4 _ [.int .u8 t.op, .string t.name, .string t.arg, .int .i64 t.n, .bool t.has, .int .u8 t.ann.op, .string t.ann.name, .int .i64 t.ann.n, akvd, kvd] := ⟨hw139, h4.inM, h4.ge⟩
  have D_hk := hk
  have D_h1 := h1
  have D_h4 := h4.box
  have D_h3 := h3.box
  have D_hkd := hkd
  refine a_end (by kernel_rfl) ?_
  refine x_seq (c_seq (q0 ?_))
  refine lC (o_lds tK (fun j v hv => h3.cell j v hv) rfl rfl rfl rfl rfl rfl ?_)
  refine lC (o_lds tK (fun j v hv => h1.cell j v hv) rfl rfl rfl rfl rfl rfl ?_)
  have hal25 := alikeM_spec t t NoM w139 _ _ (hc.rep (M := NoM) (fun _ _ h => h)) (Rep.wk ht (fun _ _ h => h.elim)) (low_noM _)
  rw [cl_true rfl] at hal25
  refine lC (o_call fo37 rfl rfl rfl (hal25) ?_)
  rintro _ w140 ⟨rfl, ew140⟩
  replace h4 := h4.ext hlow hB ew140
  replace h3 := h3.ext hlow hB ew140
  replace hc := hc.ext hlow hB ew140
  replace hE := ew140.bl hE hB
  replace ht := Rep.ext ht ew140
  replace ha := Rep.ext ha ew140
  replace hk := hk.ext ew140
  replace h1 := h1.ext ew140
  replace hd := Rep.ext hd ew140
  replace had := Rep.ext had ew140
  replace hkd := hkd.ext ew140
  replace hlow := hlow.ext ew140
  replace hB := ew140.z hB
  refine l_p 1 tK rfl (q1 (c_ifF rfl (c_skip (x_seq (q0 ?_)))))
  refine lC (o_lds tK (fun j v hv => h3.cell j v hv) rfl rfl rfl rfl rfl rfl ?_)
  refine lC (o_call fo50 rfl rfl rfl (spoil_spec t (Or2 (Rw.Add (Rw.Add M b4) b3) G) _ w.heap.size _ G hc (fun c hc => by first | exact .inr hc | exact .inl (.inr hc) | exact .inl (.inl (.inr hc))) hlow hB) ?_)
  rintro _ w141 ⟨rfl, sw141, kw141⟩
  have frw141 : ∀ x, x < w140.heap.size → ¬ G x → w141.heap[x]? = w140.heap[x]? := fun x hx hg => kw141.blk x ⟨hx, hg⟩
  replace h4 := h4.stp sw141 (frw141 b4 h4.lt (fun g => d_hc_h4 _ g rfl))
  replace h3 := h3.stp sw141 (frw141 b3 h3.lt (fun g => d_hc_h3 _ g rfl))
  replace hE := hE.trans sw141.below
  replace ht := Rep.stp ht sw141
  replace ha := Rep.stp ha sw141
  replace hk := hk.stp sw141
  replace h1 := h1.stp sw141
  replace hd := Rep.stp hd sw141
  replace had := Rep.stp had sw141
  replace hkd := hkd.stp sw141
  replace hsub := sw141.sb hsub
  replace hlow := sw141.low
  replace hB := sw141.z hB
  refine q1 (q0 ?_)
  refine lC (o_lds tK (fun j v hv => h1.cell j v hv) rfl rfl rfl rfl rfl rfl ?_)
  have l_h4 := h4.lt
  have l_h3 := h3.lt
  refine lC (o_call fo51 rfl rfl rfl (node0_own t _ _ _ ht hlow hz hns) ?_)
  rintro _ w142 ⟨⟨vx, rfl, hx⟩, ew142⟩
  replace hx := hx.ge hB
  have hGX : ∀ c, Plus NoM w141 w142 c → w141.heap.size ≤ c ∧ c < w142.heap.size := fun c h => h.elim (fun h => h.elim) id
  generalize Plus NoM w141 w142 = GX at hx hGX
  have sw142 := (Stp.ext ew142 hlow hB).more hGX
  replace h4 := h4.stp sw142 (ew142.block b4 h4.lt)
  replace h3 := h3.stp sw142 (ew142.block b3 h3.lt)
  replace hE := hE.trans sw142.below
  replace ht := Rep.stp ht sw142
  replace ha := Rep.stp ha sw142
  replace hk := hk.stp sw142
  replace h1 := h1.stp sw142
  replace hd := Rep.stp hd sw142
  replace had := Rep.stp had sw142
  replace hkd := hkd.stp sw142
  replace hsub := sw142.sb hsub
  replace hlow := sw142.low
  replace hB := sw142.z hB
  have d_hx_h4 : ∀ x, GX x → x ≠ b4 := fun x hx => by have := (hGX x hx).1; omega
  have d_hx_h3 : ∀ x, GX x → x ≠ b3 := fun x hx => by have := (hGX x hx).1; omega
  obtain ⟨akvx, kvx, usx, Hx, FAx, rfl, hoax, hklx, hrx, hOx, hHx, hAx⟩ := otm_open hx
  refine l_p 3 tK rfl ?_
  refine lC (o_new tK rfl rfl rfl ?_)
  intro b5 w143 qb5 ew143 hb5
  have nb5 := nM_of hlow qb5
  refine lC (o_st tK hb5 rfl rfl rfl rfl hx.one rfl rfl ?_)
  intro w144 h5 uw144 bew144
  have ew144 : Ext w142 w144 := ew143.trans (bew144 _ (Nat.le_of_eq qb5.symm))
  replace h4 := h4.ext hlow hB ew144
  replace h3 := h3.ext hlow hB ew144
  replace hx := hx.ext hlow hB ew144
  replace hE := ew144.bl hE hB
  replace ht := Rep.ext ht ew144
  replace ha := Rep.ext ha ew144
  replace hk := hk.ext ew144
  replace h1 := h1.ext ew144
  replace hd := Rep.ext hd ew144
  replace had := Rep.ext had ew144
  replace hkd := hkd.ext ew144
  replace hlow := hlow.ext ew144
  replace hB := ew144.z hB
  replace h5 : Box w144 b5 84 [.int .u8 t.op, .string t.name, .string t.arg, .int .i64 t.n, .bool t.has, .int .u8 t.ann.op, .string t.ann.name, .int .i64 t.ann.n, akvx, kvx] := h5
  replace h5 := h5.at nb5
  refine l_p 1 tK rfl (q1 (q0 ?_))
  refine lC (o_lds tK (fun j v hv => h5.cell j v hv) rfl rfl rfl rfl rfl rfl ?_)
  refine lC (o_call fo50 rfl rfl rfl (spoil_spec t (Or2 (Or2 (Rw.Add (Rw.Add M b4) b3) G) GX) _ w.heap.size _ GX hx (fun c hc => by first | exact .inr hc | exact .inl (.inr hc) | exact .inl (.inl (.inr hc))) hlow hB) ?_)
  rintro _ w145 ⟨rfl, sw145, kw145⟩
  have frw145 : ∀ x, x < w144.heap.size → ¬ GX x → w145.heap[x]? = w144.heap[x]? := fun x hx hg => kw145.blk x ⟨hx, hg⟩
  replace h4 := h4.stp sw145 (frw145 b4 h4.lt (fun g => d_hx_h4 _ g rfl))
  replace h3 := h3.stp sw145 (frw145 b3 h3.lt (fun g => d_hx_h3 _ g rfl))
  replace hE := hE.trans sw145.below
  replace ht := Rep.stp ht sw145
  replace ha := Rep.stp ha sw145
  replace hk := hk.stp sw145
  replace h1 := h1.stp sw145
  replace hd := Rep.stp hd sw145
  replace had := Rep.stp had sw145
  replace hkd := hkd.stp sw145
  replace h5 := h5.stp sw145
  replace hsub := sw145.sb hsub
  replace hlow := sw145.low
  replace hB := sw145.z hB
  refine q1 (q0 ?_)
  refine lC (o_lds tK (fun j v hv => h4.cell j v hv) rfl rfl rfl rfl rfl rfl ?_)
  refine lC (o_lds tK (fun j v hv => h1.cell j v hv) rfl rfl rfl rfl rfl rfl ?_)
  have hal26 := alikeM_spec t t NoM w145 _ _ (Rep.wk hd (fun _ _ h => h.elim)) (Rep.wk ht (fun _ _ h => h.elim)) (low_noM _)
  rw [cl_true rfl] at hal26
  refine lC (o_call fo37 rfl rfl rfl (hal26) ?_)
  rintro _ w146 ⟨rfl, ew146⟩
  replace h4 := h4.ext hlow hB ew146
  replace h3 := h3.ext hlow hB ew146
  replace hE := ew146.bl hE hB
  replace ht := Rep.ext ht ew146
  replace ha := Rep.ext ha ew146
  replace hk := hk.ext ew146
  replace h1 := h1.ext ew146
  replace hd := Rep.ext hd ew146
  replace had := Rep.ext had ew146
  replace hkd := hkd.ext ew146
  replace h5 := h5.ext ew146
  replace hlow := hlow.ext ew146
  replace hB := ew146.z hB
  refine l_p 1 tK rfl (q1 (c_ret (x_ret1 rfl rfl ?_)))
  exact ⟨rfl, hE⟩
end Go.Proofs.Ytohfnpmehgpphaa
