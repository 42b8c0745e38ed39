/- What came in reads as data, its size paid by the form's bound: numbers, texts, slices, types, fields. No program in sight. -/
import Derived.Test.YtpoahmeacjggfaaRows
import Derived.Test.YtpoahmeacjggfaaOpen
import Derived.Test.YtpoahmeacjggfaaTy
import Derived.Test.YtpoahmeacjggfaaPlainT
import Derived.ChangeSame
namespace Rw
open Go Go.RowKit
open Go.Proofs.Ytpoahmeacjggfaa.Rows (uptoBulk uptoBulkAll uptoSmall)

section
variable {H : Type}
theorem bulk_one (d : DataW H) : 1 ≤ uptoBulk d := by
  cases d with
  | lit l => cases l <;> simp [uptoBulk]
  | nil => simp [uptoBulk]
  | ptr d => simp [uptoBulk]
  | slice elems spare => simp [uptoBulk]
  | agg parts => simp [uptoBulk]
  | iface t d => simp [uptoBulk]
  | map entries => simp [uptoBulk]
  | held h => simp [uptoBulk]
theorem bulk_all : ∀ (l : List (DataW H)), uptoBulkAll l = (l.map uptoBulk).sum
  | [] => by simp [uptoBulkAll]
  | x :: r => by simp [uptoBulkAll, bulk_all r]
theorem bulk_str (l : List UInt8) : uptoBulk (DataW.lit (H := H) (.string l)) = l.length + 1 := by simp [uptoBulk]
theorem bulk_slice (l s : List (DataW H)) : uptoBulk (.slice l s) = uptoBulkAll l + uptoBulkAll s + 1 := by simp [uptoBulk]
theorem bulk_agg (l : List (DataW H)) : uptoBulk (.agg l) = uptoBulkAll l + 1 := by simp [uptoBulk]
theorem bulk_len (l : List (DataW H)) : l.length ≤ uptoBulkAll l := by
  induction l with
  | nil => simp
  | cons x r ih => have := bulk_one x; simp only [uptoBulkAll, List.length_cons]; omega
theorem bulk_mem {l : List (DataW H)} {d : DataW H} (h : d ∈ l) : uptoBulk d ≤ uptoBulkAll l := by
  induction l with
  | nil => cases h
  | cons x r ih =>
    simp only [uptoBulkAll]
    rcases List.mem_cons.1 h with e | e
    · subst e; omega
    · have := ih e; omega
theorem bulk_each {l : List (DataW H)} (h : uptoSmall H l = true) {j : Nat} {d : DataW H} (hd : l[j]? = some d) : uptoBulk d ≤ 1048576 := by
  have h1 : uptoBulkAll l ≤ 1048576 := by simpa [uptoSmall] using h
  exact Nat.le_trans (bulk_mem (List.mem_of_getElem? hd)) h1

/-- A type's readings, of bulk up to N, are things of α, of size at most that bulk. -/
structure OpensD (H : Type) {α : Type} [Rep α] (P : Program) (t : TypeId) (N : Nat) (sz : α → Nat) : Prop where
  cells : P.cellsOf t = Rep.sz α
  read : ∀ (enc : TypeId × Value → H) (w : World) (fuel : Nat) (cs : List Value) (d : DataW H) (ps : List MemPlace), DataW.trod enc P w 0 (fun _ => true) true fuel t cs = some (d, ps) → uptoBulk d ≤ N →
    ∃ (v : Value) (x : α), v.cells.toList = cs ∧ Rep.R NoM w v x ∧ sz x ≤ uptoBulk d

variable {P : Program}
theorem opensD_int {t : TypeId} (N : Nat) (ht : P.underlying t = some (.int .i64)) (hc : P.cellsOf t = 1) : OpensD H (α := Int) P t N (fun _ => 1) := by
  refine ⟨hc, fun enc w fuel cs d ps h _ => ?_⟩
  obtain ⟨n, rfl, _, hw⟩ := DataW.trod_int ht h
  refine ⟨.int .i64 n, n, rfl, ⟨rfl, ?_⟩, bulk_one d⟩
  have : -9223372036854775808 ≤ n ∧ n ≤ 9223372036854775807 := by simpa [Lit.wf, IntKind.min, IntKind.max, IntKind.signed, IntKind.bits] using hw
  exact this
theorem opensD_byte {t : TypeId} (N : Nat) (ht : P.underlying t = some (.int .u8)) (hc : P.cellsOf t = 1) : OpensD H (α := UInt8) P t N (fun _ => 1) := by
  refine ⟨hc, fun enc w fuel cs d ps h _ => ?_⟩
  obtain ⟨n, rfl, _, hw⟩ := DataW.trod_int ht h
  have : 0 ≤ n ∧ n ≤ 255 := by simpa [Lit.wf, IntKind.min, IntKind.max, IntKind.signed, IntKind.bits] using hw
  refine ⟨.int .u8 n, UInt8.ofNat n.toNat, rfl, ?_, bulk_one d⟩
  show Value.int .u8 n = Value.int .u8 ((UInt8.ofNat n.toNat).toNat : Int)
  congr 1
  rw [UInt8.toNat_ofNat']
  omega
theorem opensD_string {t : TypeId} (N : Nat) (hN : N < 140737488355328) (ht : P.underlying t = some .string) (hc : P.cellsOf t = 1) : OpensD H (α := ByteArray) P t N (fun s => 1 + s.size) := by
  refine ⟨hc, fun enc w fuel cs d ps h hQ => ?_⟩
  obtain ⟨s, rfl, hx, _⟩ := DataW.trod_string ht h
  cases hx
  rw [bulk_str] at hQ ⊢
  have e : s.data.toList.length = s.size := by simp
  exact ⟨.string s, s, rfl, ⟨rfl, by omega⟩, by omega⟩
theorem sum_le {α : Type} (f g : α → Nat) : ∀ (l : List α), (∀ x ∈ l, f x ≤ g x) → (l.map f).sum ≤ (l.map g).sum
  | [], _ => by simp
  | x :: l, h => by
    have := sum_le f g l (fun y hy => h y (List.mem_cons_of_mem _ hy))
    have := h x List.mem_cons_self
    simp only [List.map_cons, List.sum_cons]; omega
theorem opensD_slice {α : Type} [Rep α] {sz : α → Nat} {t e : TypeId} (N : Nat) (hN : N < 140737488355328) (ht : P.underlying t = some (.slice e)) (hc : P.cellsOf t = 1) (he : OpensD H P e (N - 1) sz) : OpensD H (α := List α) P t N (fun l => 1 + (l.map sz).sum) := by
  refine ⟨hc, fun enc w fuel cs d ps h hQ => ?_⟩
  rcases Go.Deep.open_slice ht h with ⟨rfl, _⟩ | ⟨a, len, cap, m, n, D, Pl, rfl, _, hl, _, hm, hx, hel⟩
  · exact ⟨.slice none 0 0, [], rfl, sl_nil, by have := bulk_one d; simpa using this⟩
  · have hm' : m = cap := by simpa using hm
    subst hm'
    have hd : d = .slice ((List.range len).map D) ((List.range (m - len)).map fun j => D (len + j)) := congrArg Prod.fst hx
    subst hd
    rw [bulk_slice] at hQ ⊢
    have hlen := bulk_len ((List.range len).map D)
    rw [List.length_map, List.length_range] at hlen
    have hlen' : len < 140737488355328 := by omega
    rw [he.cells] at hel
    have each : ∀ i : Fin len, ∃ y : Value × α, w.cells? 0 (a.add (i.1 * Rep.sz α)) (Rep.sz α) = some y.1.cells.toList ∧ Rep.R NoM w y.1 y.2 ∧ sz y.2 ≤ uptoBulk (D i.1) := by
      intro i
      obtain ⟨cs', h1, h2⟩ := hel i.1 (Nat.lt_of_lt_of_le i.2 hl)
      have hi : uptoBulk (D i.1) ≤ uptoBulkAll ((List.range len).map D) := bulk_mem (List.mem_map.2 ⟨i.1, List.mem_range.2 i.2, rfl⟩)
      obtain ⟨v, x, hv, hR, hp⟩ := he.read enc w n cs' _ _ h2 (by omega)
      exact ⟨(v, x), by rw [hv]; exact h1, hR, hp⟩
    obtain ⟨f, hf⟩ := Classical.axiomOfChoice each
    refine ⟨.slice (some a) len m, List.ofFn fun i => (f i).2, rfl, ⟨some a, m, by simp, by simpa using hlen', by simpa using hl, ?_⟩, ?_⟩
    · by_cases h0 : len = 0
      · subst h0; left; simp
      · right
        have hpos : 0 < Rep.sz α := Rep.pos
        obtain ⟨_, _, hc0⟩ := World.cells?_some (hf ⟨0, by omega⟩).1
        have hc00 := hc0 0 hpos
        have hlen0 := Rep.size (hf ⟨0, by omega⟩).2.1
        obtain ⟨b, off, spot⟩ := a
        have hsome : ∃ v, w.cell? ⟨b, off, spot⟩ = some v := by
          have e1 : (Addr.add ⟨b, off, spot⟩ (0 * Rep.sz α)).add 0 = ⟨b, off, spot⟩ := by simp [Addr.add]
          rw [e1] at hc00
          refine ⟨_, hc00.trans (List.getElem?_eq_getElem (by simpa [hlen0] using hpos))⟩
        obtain ⟨v0, hv0⟩ := hsome
        have hsp : spot = none := by
          cases spot with
          | none => rfl
          | some s => simp [World.cell?] at hv0; split at hv0 <;> simp at hv0
        subst hsp
        have hb : b < w.heap.size := by
          rcases Nat.lt_or_ge b w.heap.size with h | h
          · exact h
          · simp [World.cell?, Array.getElem?_eq_none h] at hv0
        refine ⟨b, off, rfl, fun i x hi => ?_⟩
        have hi' : i < len := by
          have := (List.getElem?_eq_some_iff.1 hi).1
          simpa using this
        have hxe : x = (f ⟨i, hi'⟩).2 := by
          rw [List.getElem?_ofFn, dif_pos hi'] at hi
          simpa using hi.symm
        subst hxe
        refine ⟨(f ⟨i, hi'⟩).1, (hf ⟨i, hi'⟩).2.1, hb, fun h => h.elim, fun j c hj => ?_⟩
        obtain ⟨_, hl2, hc2⟩ := World.cells?_some (hf ⟨i, hi'⟩).1
        have hj' : j < Rep.sz α := by rw [← hl2]; exact (List.getElem?_eq_some_iff.1 hj).1
        have := hc2 j hj'
        rw [addr_add, addr_add, hj] at this
        exact this
    · rw [bulk_all, List.map_map]
      have e1 : (List.range len).map (uptoBulk ∘ D) = List.ofFn fun i : Fin len => uptoBulk (D i.1) := by
        apply List.ext_getElem
        · simp
        · intro i h1 h2
          simp
      have e2 : (List.ofFn fun i => (f i).2).map sz = List.ofFn fun i : Fin len => sz (f i).2 := by rw [List.map_ofFn]; rfl
      rw [e1, e2]
      have key : ∀ (n : Nat) (g h : Fin n → Nat), (∀ i, g i ≤ h i) → (List.ofFn g).sum ≤ (List.ofFn h).sum := by
        intro n
        induction n with
        | zero => intro g h _; simp
        | succ n ih =>
          intro g h hgh
          rw [List.ofFn_succ, List.ofFn_succ, List.sum_cons, List.sum_cons]
          have := ih (fun i => g i.succ) (fun i => h i.succ) (fun i => hgh _)
          have := hgh 0
          omega
      have := key len _ _ (fun i => (hf i).2.2)
      omega

/-- A type's size: its parts and their names. -/
def tsz (t : Ty) : Nat := ((partsL t).map fun x => 1 + x.name.size).sum
theorem tsz_eq (t : Ty) : tsz t = 1 + t.name.size + (t.kids.map tsz).sum := by
  unfold tsz
  rw [partsL_eq, List.map_cons, List.sum_cons]
  congr 1
  induction t.kids with
  | nil => rfl
  | cons k r ih => rw [List.flatMap_cons, List.map_append, List.sum_append, ih, List.map_cons, List.sum_cons]
theorem psz_tsz (t : Ty) : psz t ≤ tsz t := by
  show (partsL t).length ≤ _
  unfold tsz
  induction partsL t with
  | nil => simp
  | cons k r ih => simp only [List.length_cons, List.map_cons, List.sum_cons]; omega
theorem opensD_ty {t tOp tStr tInt tSl : TypeId} {f0 f1 f2 f3 : Field} (ht : P.underlying t = some (.struct #[f0, f1, f2, f3])) (h0 : f0.offset = 0 ∧ f0.type = tOp) (h1 : f1.offset = 1 ∧ f1.type = tStr) (h2 : f2.offset = 2 ∧ f2.type = tInt) (h3 : f3.offset = 3 ∧ f3.type = tSl)
    (uOp : P.underlying tOp = some (.int .u8)) (cOp : P.cellsOf tOp = 1) (uStr : P.underlying tStr = some .string) (cStr : P.cellsOf tStr = 1) (uInt : P.underlying tInt = some (.int .i64)) (cInt : P.cellsOf tInt = 1) (uSl : P.underlying tSl = some (.slice t)) (cSl : P.cellsOf tSl = 1) (cT : P.cellsOf t = 4) :
    ∀ N, N < 140737488355328 → OpensD H (α := Ty) P t N tsz := by
  intro N
  induction N with
  | zero => exact fun _ => ⟨cT, fun enc w fuel cs d ps h hQ => by have := bulk_one d; omega⟩
  | succ N ih =>
    intro hN
    have ihS := opensD_slice (H := H) (P := P) (N + 1) hN uSl cSl (ih (by omega))
    refine ⟨cT, fun enc w fuel cs d ps h hQ => ?_⟩
    obtain ⟨xs, n, _, hx, hl, hxl, hf⟩ := DataW.trod_struct ht h
    cases hx
    rw [cT] at hl
    obtain ⟨c0, c1, c2, c3, rfl⟩ : ∃ c0 c1 c2 c3, cs = [c0, c1, c2, c3] := by
      rcases cs with _ | ⟨c0, _ | ⟨c1, _ | ⟨c2, _ | ⟨c3, _ | ⟨c4, r⟩⟩⟩⟩⟩ <;> simp at hl
      exact ⟨c0, c1, c2, c3, rfl⟩
    obtain ⟨x0, x1, x2, x3, rfl⟩ : ∃ x0 x1 x2 x3, xs = [x0, x1, x2, x3] := by
      rcases xs with _ | ⟨c0, _ | ⟨c1, _ | ⟨c2, _ | ⟨c3, _ | ⟨c4, r⟩⟩⟩⟩⟩ <;> simp at hxl
      exact ⟨c0, c1, c2, c3, rfl⟩
    have g0 := hf 0 f0 rfl
    have g1 := hf 1 f1 rfl
    have g2 := hf 2 f2 rfl
    have g3 := hf 3 f3 rfl
    rw [h0.1, h0.2, cOp] at g0
    rw [h1.1, h1.2, cStr] at g1
    rw [h2.1, h2.2, cInt] at g2
    rw [h3.1, h3.2, cSl] at g3
    simp only [List.drop_zero, List.drop_succ_cons, List.take_succ_cons, List.take_zero, List.getElem?_cons_zero, List.getElem?_cons_succ] at g0 g1 g2 g3
    rw [bulk_agg] at hQ ⊢
    simp only [List.map_cons, List.map_nil, uptoBulkAll] at hQ ⊢
    obtain ⟨op, e0, _, w0⟩ := DataW.trod_int uOp g0
    obtain ⟨v1, s, e1, r1, z1⟩ := (opensD_string (H := H) (P := P) (N + 1) hN uStr cStr).read enc w n _ _ _ g1 (by omega)
    obtain ⟨v2, m, e2, r2, _⟩ := (opensD_int (H := H) (P := P) (N + 1) uInt cInt).read enc w n _ _ _ g2 (by omega)
    obtain ⟨v3, l, e3, r3, z3⟩ := ihS.read enc w n _ _ _ g3 (by omega)
    obtain ⟨rfl, hs⟩ := r1
    obtain ⟨rfl, hm⟩ := r2
    have hop : 0 ≤ op ∧ op ≤ 255 := by simpa [Lit.wf, IntKind.min, IntKind.max, IntKind.signed, IntKind.bits] using w0
    have r3' : Sl NoM w v3 l := r3
    have e3' := r3'.cells
    refine ⟨.agg #[.int .u8 op, .string s, .int .i64 m, v3], .mk op s m l, ?_, ty_mk hop hs hm r3', ?_⟩
    · rw [e3'] at e3
      simp [Value.cells] at e0 e1 e2 e3 ⊢
      simp [*]
    · rw [tsz_eq]
      show 1 + s.size + (l.map tsz).sum ≤ _
      have := bulk_one x0.1
      have := bulk_one x2.1
      omega

/-- A field's size. -/
def fsz (f : Fld) : Nat := 2 + f.name.size + tsz f.ty
theorem opensD_fld {t tStr tT : TypeId} {f0 f1 : Field} (N : Nat) (hN : N < 140737488355328) (ht : P.underlying t = some (.struct #[f0, f1])) (h0 : f0.offset = 0 ∧ f0.type = tStr) (h1 : f1.offset = 1 ∧ f1.type = tT)
    (uStr : P.underlying tStr = some .string) (cStr : P.cellsOf tStr = 1) (oT : OpensD H (α := Ty) P tT N tsz) (cF : P.cellsOf t = 5) : OpensD H (α := Fld) P t N fsz := by
  refine ⟨cF, fun enc w fuel cs d ps h hQ => ?_⟩
  obtain ⟨xs, n, _, hx, hl, hxl, hf⟩ := DataW.trod_struct ht h
  cases hx
  rw [cF] at hl
  obtain ⟨c0, r, rfl⟩ : ∃ c0 r, cs = c0 :: r := by
    rcases cs with _ | ⟨c0, r⟩
    · simp at hl
    · exact ⟨c0, r, rfl⟩
  obtain ⟨x0, x1, rfl⟩ : ∃ x0 x1, xs = [x0, x1] := by
    rcases xs with _ | ⟨c0, _ | ⟨c1, _ | ⟨c2, r⟩⟩⟩ <;> simp at hxl
    exact ⟨c0, c1, rfl⟩
  have g0 := hf 0 f0 rfl
  have g1 := hf 1 f1 rfl
  rw [h0.1, h0.2, cStr] at g0
  rw [h1.1, h1.2, oT.cells] at g1
  have hr : r.length = 4 := by simpa using hl
  simp only [List.drop_zero, List.drop_succ_cons, List.take_succ_cons, List.take_zero, List.getElem?_cons_zero, List.getElem?_cons_succ, List.take_of_length_le (show r.length ≤ Rep.sz Ty from Nat.le_of_eq hr)] at g0 g1
  rw [bulk_agg] at hQ ⊢
  simp only [List.map_cons, List.map_nil, uptoBulkAll] at hQ ⊢
  obtain ⟨v0, s, e0, r0, z0⟩ := (opensD_string (H := H) (P := P) N hN uStr cStr).read enc w n _ _ _ g0 (by omega)
  obtain ⟨v1, x, e1, r1, z1⟩ := oT.read enc w n _ _ _ g1 (by omega)
  obtain ⟨rfl, hs⟩ := r0
  obtain ⟨kv, rfl, _⟩ := ty_open r1
  refine ⟨.agg #[.string s, .int .u8 x.op, .string x.name, .int .i64 x.n, kv], ⟨s, x⟩, ?_, fld_mk hs r1, ?_⟩
  · simp [Value.cells] at e0 e1 ⊢
    rw [e0, ← e1]
    simp
  · show 2 + s.size + tsz x ≤ _
    omega

/-- A struct that came in. -/
theorem opensD_arg {α : Type} [Rep α] {sz : α → Nat} {t : TypeId} {N : Nat} (ho : OpensD H P t N sz) {enc : TypeId × Value → H} {w : World} {v : Value} {d : DataW H} {ps : List MemPlace}
    (h : DataW.Trod enc P w 0 (fun _ => true) true t v d ps) (hd : uptoBulk d ≤ N) : ∃ (u : Value) (x : α), u.cells = v.cells ∧ Rep.R NoM w u x ∧ sz x ≤ N := by
  obtain ⟨fuel, hf⟩ := h
  obtain ⟨u, x, hv, hR, hp⟩ := ho.read enc w fuel _ _ _ hf hd
  exact ⟨u, x, Array.toList_inj.1 hv, hR, by omega⟩
end
theorem agg_of {u : Value} {a : Array Value} (h : u.cells = (Value.agg a).cells) (hu : ∃ b, u = .agg b) : u = .agg a := by
  obtain ⟨b, rfl⟩ := hu
  simp [Value.cells] at h
  rw [h]
theorem ty_agg {M : Nat → Prop} {w : World} {v : Value} {t : Ty} (h : Rep.R M w v t) : ∃ b, v = .agg b := let ⟨_, h1, _⟩ := ty_open h; ⟨_, h1⟩
theorem fld_agg {M : Nat → Prop} {w : World} {v : Value} {t : Fld} (h : Rep.R M w v t) : ∃ b, v = .agg b := let ⟨_, _, h1, _⟩ := fld_open h; ⟨_, h1⟩
theorem sl_of {α : Type} [Rep α] {M : Nat → Prop} {w : World} {u : Value} {l : List α} {a : Option Addr} {n c : Nat} (h : u.cells = (Value.slice a n c).cells) (hu : Sl M w u l) : u = .slice a n c := by
  rw [hu.cells] at h
  simpa [Value.cells] using h
theorem sum_mem {α : Type} {f : α → Nat} {x : α} {l : List α} (h : x ∈ l) : f x ≤ (l.map f).sum := by
  induction l with
  | nil => cases h
  | cons y r ih =>
    rw [List.map_cons, List.sum_cons]
    rcases List.mem_cons.1 h with e | e
    · subst e; omega
    · have := ih e; omega
end Rw
