/- Rules for walking a Go function's code, part four: memory that the call makes and writes: literals, make, append, stores. No program in sight. -/
import Derived.Test.YtohfnpmehgpphaaRep
import Derived.Great.FillDense
import Derived.Deep.AppendSrc
namespace Rw
open Go Go.RowKit

/-! ## Small laws -/

theorem ownBlock_some (b o len cap : Nat) : (Value.slice (some ⟨b, o, none⟩) len cap).ownBlock = some b := rfl

theorem flat_nil : flat [] = [] := rfl
theorem flat_append (us vs : List Value) : flat (us ++ vs) = flat us ++ flat vs := by simp [flat]

theorem zipIdx_of : ∀ (ps : List (Nat × Value)) (k : Nat), ps.map (·.1) = List.range' k ps.length → ((ps.map (·.2)).zipIdx k).map (fun x => (x.2, x.1)) = ps
  | [], _, _ => rfl
  | (i, v) :: r, k, h => by
    simp only [List.map_cons, List.length_cons, List.range'_succ, List.cons.injEq] at h
    obtain ⟨rfl, h2⟩ := h
    simp only [List.map_cons, List.zipIdx_cons, zipIdx_of r (i + 1) h2]

/-- A slice literal, all its elements given. -/
theorem run_buildSlice_all {P : Program} {T : Tab} (hT : TabOk P T) {t e : TypeId} {ti te : TI} (ht : T.get t = some ti) (htd : ti.d = .sl e) (hte : T.get e = some te) (hsz : 0 < te.size)
    (ps : Array (Nat × Value)) (hp : ps.toList.map (·.1) = List.range' 0 ps.toList.length) (hs : ∀ v ∈ ps.toList.map (·.2), v.cells.size = te.size) (hk : ps.toList.length * te.size ≤ 16777216) (w : World) :
    (Instr.buildSlice t ps.toList.length ps).run P w = .ok (.slice (some ⟨w.heap.size, 0, none⟩) ps.toList.length ps.toList.length) (w.alloc (.cells (flat (ps.toList.map (·.2))).toArray e)) := by
  have hd := (hT t ti ht).d
  rw [htd] at hd
  simp only [TD.Ok] at hd
  have hk' : ¬ (16777216 < ps.toList.length * te.size) := by omega
  simp only [Instr.buildSlice, Sem.run_bind, run_underlying hd, Result.andThen_ok, run_sizeOf hT hte]
  rw [if_neg hk']
  by_cases h0 : ps.toList.length * te.size = 0
  · have := Great.fill_whole hsz (ps.toList.map (·.2)) ((Array.range (ps.toList.length * te.size)).map ((#[] : Array Value)[· % (#[] : Array Value).size]!)) hs (by simp)
    rw [zipIdx_of _ _ hp] at this
    simp only [if_pos h0, Sem.run_bind, Sem.run_pure, Result.andThen_ok]
    rw [this]
    simp [newRow, flat]
  · have := Great.fill_whole hsz (ps.toList.map (·.2)) ((Array.range (ps.toList.length * te.size)).map (te.zero.cells[· % te.zero.cells.size]!)) hs (by simp)
    rw [zipIdx_of _ _ hp] at this
    simp only [if_neg h0, Sem.run_bind, Sem.run_pure, Result.andThen_ok, run_zeroValue' hT hte]
    rw [this]
    simp [newRow, flat]

theorem flat_replicate {z : Value} (hz : z.cells = #[z]) : ∀ k, flat (List.replicate k z) = List.replicate k z
  | 0 => rfl
  | k + 1 => by
    have := flat_replicate hz k
    simp only [flat] at this
    simp [List.replicate_succ, flat, hz, this]

theorem Rs.sizes {α : Type} [Rep α] {M : Nat → Prop} {w : World} : ∀ {us : List Value} {l : List α}, Rs M w us l → ∀ v ∈ us, v.cells.size = Rep.sz α
  | [], [], _, v, hv => by cases hv
  | _ :: _, _ :: _, h, v, hv => by
    rcases List.mem_cons.1 hv with rfl | hv
    · exact Rep.size h.1
    · exact Rs.sizes h.2 v hv
  | [], _ :: _, h, _, _ => h.elim
  | _ :: _, [], h, _, _ => h.elim

section
variable {P : Program} {T : Tab} {n : Nat} {ops : Array Oper} {Q : Exit → Act → World → Prop} {G : Env} {w : World} {K : Env → World → Prop}
  {d ty : Nat} {pos : String} {af : Array Edge} {g : Option (Nat × Bool)}

theorem o_bs {t e k : Nat} {ps : Array (Nat × Operand)} {vs : List Value} {ti te : TI} (hT : TabOk P T) (hv : Env.evs G (ps.toList.map (·.2)) = some vs) (hp : ps.toList.map (·.1) = List.range' 0 k) (hlen : ps.toList.length = k)
    (ht : T.get t = some ti) (htd : ti.d = .sl e) (hte : T.get e = some te) (hsz : Nat.blt 0 te.size = true) (hs : ∀ v ∈ vs, v.cells.size = te.size) (hk : Nat.ble (k * te.size) 16777216 = true)
    (hg : gd ops G ⟨some d, .buildSlice t k ps, ty, pos, af, g⟩ = some true) (hdn : Nat.blt d n = true)
    (h : ∀ b w', b = w.heap.size → Ext w w' → Box w' b e (flat vs) → K ((d, .slice (some ⟨b, 0, none⟩) k k) :: G) w') : OW P n ops Q G w ⟨some d, .buildSlice t k ps, ty, pos, af, g⟩ K := by
  subst hlen
  refine o_val (w' := w.alloc (.cells (flat vs).toArray e)) hg rfl hdn (fun a ha => ?_) (h w.heap.size _ rfl (ext_alloc _ _) ⟨heap_alloc_new w _⟩)
  have e2 : (ps.map fun (i, x) => (i, a.eval x)).toList.map (·.2) = vs := by
    rw [← ha.evs hv]; simp [List.map_map, Function.comp_def]
  have e1 : (ps.map fun (i, x) => (i, a.eval x)).toList.map (·.1) = List.range' 0 (ps.map fun (i, x) => (i, a.eval x)).toList.length := by
    simp only [Array.toList_map, List.map_map, List.length_map]
    rw [← hp]; rfl
  have hr := run_buildSlice_all hT ht htd hte (Nat.le_of_ble_eq_true hsz) (ps.map fun (i, x) => (i, a.eval x)) e1 (by rw [e2]; exact hs) (by simpa using Nat.le_of_ble_eq_true hk) w
  rw [e2] at hr
  simp only [Array.toList_map, List.length_map, Array.length_toList] at hr
  simp [execOp, hr]

/-- make([]T, k): k zero elements, of one cell each. -/
theorem o_mk {t e : Nat} {x y : Operand} {ti te : TI} {kd : IntKind} {k B : Nat} {M : Nat → Prop} {α : Type} [Rep α] (z : α) (hT : TabOk P T) (hx : Env.ev G x = some (.int kd (k : Int))) (hy : Env.ev G y = some (.int kd (k : Int)))
    (ht : T.get t = some ti) (htd : ti.d = .sl e) (hte : T.get e = some te) (hsz : te.size = 1) (hrs : Rep.sz α = 1) (hzc : te.zero.cells = #[te.zero]) (hz : ∀ M w, Rep.R M w te.zero z) (hk : te.bytes * k ≤ 140737488355328) (hk2 : k < 140737488355328)
    (hl : Low M w) (hB : B ≤ w.heap.size)
    (hg : gd ops G ⟨some d, .makeSlice t x y, ty, pos, af, g⟩ = some true) (hdn : Nat.blt d n = true)
    (h : ∀ b w', b = w.heap.size → Ext w w' → Stp B M (Add M b) w w' → OwnSl e B (Add M b) w' (.slice (some ⟨b, 0, none⟩) k k) (List.replicate k z) → K ((d, .slice (some ⟨b, 0, none⟩) k k) :: G) w') : OW P n ops Q G w ⟨some d, .makeSlice t x y, ty, pos, af, g⟩ K := by
  obtain ⟨i, h1, h2, h3, h4⟩ := (hT e te hte).info
  have hd := (hT t ti ht).d
  rw [htd] at hd
  simp only [TD.Ok] at hd
  obtain ⟨w', hrun, hown, hgr⟩ := run_make_full (P := P) w B t e i te.zero 1 hd h1 h4 (by rw [h2, hsz]) kd kd k (by rw [h3]; omega) (by simp only [maxLen]; omega) hB
  have hext : Ext w w' := ⟨hgr.os, hgr.tape, hgr.output, hgr.size, fun b hb => hgr.block b hb (by simp)⟩
  have hlt := hown.lt w.heap.size rfl
  have hst := Stp.add hext hl hB (Nat.le_refl _) hlt.2
  refine o_val (w' := w') hg rfl hdn (fun a ha => ?_) (h w.heap.size w' rfl hext hst ⟨⟨List.replicate k te.zero, ?_, ?_⟩, ?_⟩)
  · simp [execOp, ha.ev hx, ha.ev hy, hrun]
  · have e1 : (madeCells te.zero.cells (k * 1)).toList = flat (List.replicate k te.zero) := by
      rw [flat_replicate hzc, hzc, Nat.mul_one, toList_madeCells_one]
    rw [e1] at hown
    rw [List.length_replicate, hrs]
    exact hown
  · clear h hrun hown hx hy hk hk2 hst
    induction k with
    | zero => exact trivial
    | succ k ih => exact ⟨hz _ _, ih⟩
  · intro b hb
    simp [Value.ownBlock] at hb
    exact .inr hb.symm

/-! ## append -/

/-- What append does to a slice of the call's own. -/
theorem run_app {P : Program} {T : Tab} (hT : TabOk P T) {t tx e ty : TypeId} {ti te : TI} (ht : T.get t = some ti) (htd : ti.d = .sl e) (hte : T.get e = some te) {α : Type} [Rep α] (hrs : te.size = Rep.sz α) (hz : te.zero.cells.size = te.size)
    {B : Nat} {M : Nat → Prop} {w : World} {v : Value} {l k : List α} {us : List Value} (hown : OwnSl e B M w v l) {x : Value} (hsrc : Src P te.size tx x k.length (flat us) w) (hus : Rs M w us k) (hl : Low M w) (hB : B ≤ w.heap.size)
    (h63 : l.length + k.length < 140737488355328) (hbytes : (l.length + k.length) * te.bytes ≤ 140737488355328) :
    ∃ v' w' M', (Builtin.append_ #[t, tx] ty #[v, x]).run P w = .ok v' w' ∧ OwnSl e B M' w' v' (l ++ k) ∧ Stp B M M' w w' ∧ (∀ b, b < w.heap.size → some b ≠ v.ownBlock → w'.heap[b]? = w.heap[b]?) ∧
      (∀ b, v'.ownBlock = some b → v.ownBlock = some b ∨ w.heap.size ≤ b) := by
  obtain ⟨i, h1, h2, h3, h4⟩ := (hT e te hte).info
  have hd := (hT t ti ht).d
  rw [htd] at hd
  simp only [TD.Ok] at hd
  obtain ⟨vs, hr, hrv⟩ := hown.row
  have hpos : 0 < te.size := by rw [hrs]; exact Rep.pos
  have hfl : (flat us).length = k.length * te.size := by rw [hus.flat_length, hrs]
  have hfv : (flat vs).length = l.length * te.size := by rw [hrv.flat_length, hrs]
  -- a new block
  have grow : ∀ (old : Nat), old < l.length + k.length → (hrun : (Builtin.append_ #[t, tx] ty #[v, x]).run P w =
        .ok (.slice (some ⟨w.heap.size, 0, none⟩) (l.length + k.length) (grownCap w (l.length + k.length) old e)) (w.drew.alloc (.cells ((flat vs ++ flat us).toArray ++ Builtin.zeroCells te.zero.cells (grownCap w (l.length + k.length) old e - (l.length + k.length))) e))) →
      ∃ v' w' M', (Builtin.append_ #[t, tx] ty #[v, x]).run P w = .ok v' w' ∧ OwnSl e B M' w' v' (l ++ k) ∧ Stp B M M' w w' ∧ (∀ b, b < w.heap.size → some b ≠ v.ownBlock → w'.heap[b]? = w.heap[b]?) ∧
      (∀ b, v'.ownBlock = some b → v.ownBlock = some b ∨ w.heap.size ≤ b) := by
    intro old ho hrun
    have hge := grownCap_ge w (l.length + k.length) old e
    have hcm : grownCap w (l.length + k.length) old e ≤ maxLen := grownCap_le_maxLen w _ old e (by simp only [maxLen]; omega)
    have hext : Ext w (w.drew.alloc (.cells ((flat vs ++ flat us).toArray ++ Builtin.zeroCells te.zero.cells (grownCap w (l.length + k.length) old e - (l.length + k.length))) e)) :=
      (ext_drew w).then (ext_alloc w.drew _)
    have hst := Stp.add (B := B) (M := M) (b := w.heap.size) hext hl hB (Nat.le_refl _) (by simp)
    refine ⟨_, _, Add M w.heap.size, hrun, ⟨⟨vs ++ us, ⟨?_, .inr ⟨w.heap.size, _, _, ?_, hB, heap_alloc_new w.drew _, ?_, hcm, ?_, ?_⟩⟩, ?_⟩, ?_⟩, hst, fun b hb _ => hext.block b hb, ?_⟩
    · rw [flat_append, List.length_append, hfl, hfv, List.length_append, ← hrs, Nat.add_mul]
    · rw [List.length_append]
    · rw [List.length_append]; exact hge
    · simp only [Array.size_append, List.size_toArray, size_zeroCells, hz, List.length_append, hfl, hfv, ← Nat.add_mul, ← hrs]
      congr 1
      omega
    · rw [flat_append]
      simp only [Array.toList_append, List.length_append, ← hrs]
      have : (l.length + k.length) * te.size = (flat vs ++ flat us).length := by rw [List.length_append, hfl, hfv, Nat.add_mul]
      rw [this]
      exact List.take_left
    · exact Rs.append (Rs.upd (Rs.wk hrv hst.wk) (hext.upd _)) (Rs.upd (Rs.wk hus hst.wk) (hext.upd _))
    · intro b hb; simp [Value.ownBlock] at hb; exact .inr hb.symm
    · intro b hb; simp [Value.ownBlock] at hb; exact .inr (by omega)
  rcases hr.2 with ⟨rfl, hn⟩ | ⟨g, cap, cur, rfl, hbg, hgg, hnc, hcm, hcs, htake⟩
  · have hl0 : l = [] := List.eq_nil_of_length_eq_zero hn
    subst hl0
    have hv0 : flat vs = [] := List.eq_nil_of_length_eq_zero (by simpa using hfv)
    by_cases hk0 : k.length = 0
    · have hk' : k = [] := List.eq_nil_of_length_eq_zero hk0
      subst hk'
      have hu0 : flat us = [] := List.eq_nil_of_length_eq_zero (by simpa using hfl)
      refine ⟨.slice none 0 0, w, M, ?_, own_nil, Stp.refl hl, fun _ _ _ => rfl, by simp [Value.ownBlock]⟩
      have hc := hsrc.cells
      rw [hu0] at hc
      simp only [List.length_nil] at hc
      rcases hsrc.kind with ⟨e', hkk⟩ | hkk <;> simp [Builtin.append_, run_underlying hd, run_underlying hkk, Go.sizeOf, typeInfo, h1, hsrc.len, h2, hc]
    · refine grow 0 (by simp; omega) ?_
      have := run_append_grow_src (P := P) w t tx ty e i te.zero hd h1 h4 none 0 0 [] (by simp [Builtin.firstCells]) x k.length (flat us) (by rw [h2]; exact hsrc) (by omega) (by omega) (by rw [h3]; exact growslice_fits (by omega) (by simpa using hbytes))
      rw [hv0]
      simpa using this
  · by_cases hroom : l.length + k.length ≤ cap
    · have hfit : l.length * te.size + (flat us).length ≤ cur.size := by
        rw [hfl, hcs, ← hrs, ← Nat.add_mul]; exact Nat.mul_le_mul_right _ hroom
      have hst := run_storeCells_at P g (l.length * te.size) e (flat us) 0 cur w hgg (by simpa using hfit) hsrc.one
      simp only [Nat.add_zero] at hst
      have hrun : (Builtin.append_ #[t, tx] ty #[.slice (some ⟨g, 0, none⟩) l.length cap, x]).run P w = .ok (.slice (some ⟨g, 0, none⟩) (l.length + k.length) cap)
          (w.setRow g (cur.toList.take (l.length * te.size) ++ flat us ++ cur.toList.drop (l.length * te.size + (flat us).length)).toArray) := by
        have hc := hsrc.cells
        rcases hsrc.kind with ⟨e', hkk⟩ | hkk <;>
          simp [Builtin.append_, run_underlying hd, run_underlying hkk, Go.sizeOf, typeInfo, h1, hsrc.len, hroom, h2, hc, Addr.add_lit, hst]
      have hg : M g := hown.inM g rfl
      have hupd : Upd M w (w.setRow g (cur.toList.take (l.length * te.size) ++ flat us ++ cur.toList.drop (l.length * te.size + (flat us).length)).toArray) :=
        ⟨by simp, fun b hb hn => setRow_other w g b _ (fun e => hn (e ▸ hg))⟩
      refine ⟨_, _, M, hrun, ⟨⟨vs ++ us, ⟨?_, .inr ⟨g, cap, _, ?_, hbg, setRow_heap w g cur _ e _ hgg, ?_, hcm, ?_, ?_⟩⟩, ?_⟩, hown.inM⟩, ⟨hupd, fun _ _ h => h, fun _ h => h, fun b hb => by simpa using hl b hb, ⟨rfl, rfl, rfl, by simp, fun b hb => setRow_other w g b _ (by omega)⟩⟩,
        fun b hb hn => setRow_other w g b _ (fun e => hn (by simp [Value.ownBlock, e])), ?_⟩
      · rw [flat_append, List.length_append, hfl, hfv, List.length_append, ← hrs, Nat.add_mul]
      · rw [List.length_append]
      · rw [List.length_append]; exact hroom
      · simp only [List.size_toArray, List.length_append, List.length_take, List.length_drop, Array.length_toList]
        omega
      · rw [flat_append, ← htake]
        simp only [List.length_append, ← hrs]
        have h0 : (cur.toList.take (l.length * te.size)).length = l.length * te.size := by
          have hct : cur.toList.length = cap * te.size := by rw [hrs]; simpa using hcs
          have hle : l.length * te.size ≤ cap * te.size := Nat.mul_le_mul_right _ hnc
          rw [List.length_take, hct, Nat.min_eq_left hle]
        have : (l.length + k.length) * te.size = (cur.toList.take (l.length * te.size) ++ flat us).length := by rw [List.length_append, h0, hfl, Nat.add_mul]
        rw [this]
        exact List.take_left
      · exact Rs.append (Rs.upd hrv hupd) (Rs.upd hus hupd)
      · intro b hb; exact .inl hb
    · refine grow cap (by omega) ?_
      have holds : ∀ j u, (flat vs)[j]? = some u → w.drew.cell? ((⟨g, 0, none⟩ : Addr).add j) = some u := fun j u hj => by simpa using hr.cells (g := g) rfl j u hj
      have := run_append_grow_src (P := P) w t tx ty e i te.zero hd h1 h4 (some ⟨g, 0, none⟩) l.length cap (flat vs) (run_firstCells_some w.drew i.size l.length _ _ _ _ (by rw [hfv, h2]) holds) x k.length (flat us) (by rw [h2]; exact hsrc) (by omega) (by omega) (by rw [h3]; exact growslice_fits (by omega) hbytes)
      exact this

/-- A slice that reads as a list is a source. -/
theorem src_sl {P : Program} {T : Tab} (hT : TabOk P T) {t e : TypeId} {ti te : TI} (ht : T.get t = some ti) (htd : ti.d = .sl e) {α : Type} [Rep α] (hrs : te.size = Rep.sz α) {M : Nat → Prop} {w : World} {x : Value} {k : List α} (h : Sl M w x k) :
    ∃ us, Src P te.size t x k.length (flat us) w ∧ Rs M w us k := by
  have hd := (hT t ti ht).d
  rw [htd] at hd
  simp only [TD.Ok] at hd
  obtain ⟨a, cap, rfl, _, _, he⟩ := h
  rcases he with rfl | ⟨b, off, rfl, hel⟩
  · refine ⟨[], ⟨.inl ⟨e, hd⟩, fun _ => rfl, ?_, ?_, by simp [flat], by simp [flat]⟩, trivial⟩ <;>
      cases a <;> simp [Builtin.firstCells, flat, loadCells, loadCellsFrom]
  · -- the elements' values, one by one
    have : ∀ (m : Nat) (hm : m ≤ k.length), ∃ us, Rs M w us (k.drop (k.length - m)) ∧ ∀ (i : Nat) (u : Value), us[i]? = some u → At M w b (off + (k.length - m + i) * Rep.sz α) u.cells.toList := by
      intro m
      induction m with
      | zero => intro _; exact ⟨[], by simp [Rs], by simp⟩
      | succ m ih =>
        intro hm
        obtain ⟨us, h1, h2⟩ := ih (by omega)
        obtain ⟨x, hx⟩ : ∃ x, k[k.length - (m + 1)]? = some x := ⟨_, List.getElem?_eq_getElem (by omega)⟩
        obtain ⟨u, hu, hat⟩ := hel _ _ hx
        refine ⟨u :: us, ?_, ?_⟩
        · have e1 : k.drop (k.length - (m + 1)) = x :: k.drop (k.length - m) := by
            obtain ⟨hlt, rfl⟩ := List.getElem?_eq_some_iff.1 hx
            rw [List.drop_eq_getElem_cons hlt]
            congr 2
            omega
          rw [e1]
          exact ⟨hu, h1⟩
        · intro i y hy
          cases i with
          | zero => simp at hy; subst hy; exact hat
          | succ i =>
            have := h2 i y (by simpa using hy)
            rwa [show k.length - (m + 1) + (i + 1) = k.length - m + i by omega]
    obtain ⟨us, hus, hat⟩ := this k.length (Nat.le_refl _)
    simp only [Nat.sub_self, List.drop_zero, Nat.zero_add] at hus hat
    refine ⟨us, Src.ofSlice w hd ⟨b, off, none⟩ k.length cap (flat us) (by rw [hus.flat_length, hrs]) (fun j u hj => ?_) hus.flat_one, hus⟩
    -- cell j of the flat list
    have hs : ∀ v ∈ us, v.cells.size = Rep.sz α := hus.sizes
    have := Great.flat_get Rep.pos us hs j
    unfold flat at hj
    rw [this] at hj
    cases hu : us[j / Rep.sz α]? with
    | none => rw [hu] at hj; cases hj
    | some y =>
      rw [hu] at hj
      have hc := (hat _ _ hu).cell (j % Rep.sz α) u (by simpa using hj)
      rw [addr_add]
      rwa [show off + j = off + j / Rep.sz α * Rep.sz α + j % Rep.sz α by have := Nat.div_add_mod j (Rep.sz α); rw [Nat.mul_comm] at this; omega]

/-- append(v, x...): onto a slice of the call's own, what a slice reads as. -/
theorem o_app {t e B : Nat} {x y : Operand} {ti te : TI} {M : Nat → Prop} {α : Type} [Rep α] {v u : Value} {l k : List α} (hT : TabOk P T) (hown : OwnSl e B M w v l) (hsl : Sl M w u k) (hl : Low M w) (hB : B ≤ w.heap.size)
    (hx : Env.ev G x = some v) (hy : Env.ev G y = some u) (ht : T.get t = some ti) (htd : ti.d = .sl e) (hte : T.get e = some te) (hrs : te.size = Rep.sz α) (hz : te.zero.cells.size = te.size)
    (h63 : l.length + k.length < 140737488355328) (hbytes : (l.length + k.length) * te.bytes ≤ 140737488355328)
    (hg : gd ops G ⟨some d, .call ⟨.builtin .append, #[x, y], #[t, t]⟩, ty, pos, af, g⟩ = some true) (hdn : Nat.blt d n = true)
    (h : ∀ v' w' M', OwnSl e B M' w' v' (l ++ k) → Stp B M M' w w' → (∀ b, b < w.heap.size → some b ≠ v.ownBlock → w'.heap[b]? = w.heap[b]?) → (∀ b, v'.ownBlock = some b → v.ownBlock = some b ∨ w.heap.size ≤ b) → K ((d, v') :: G) w') :
    OW P n ops Q G w ⟨some d, .call ⟨.builtin .append, #[x, y], #[t, t]⟩, ty, pos, af, g⟩ K := by
  obtain ⟨us, hsrc, hus⟩ := src_sl (te := te) hT ht htd hrs hsl
  obtain ⟨v', w', M', hrun, h1, h2, h3, h4⟩ := run_app (ty := ty) hT ht htd hte hrs hz hown hsrc hus hl hB h63 hbytes
  refine o_val (w' := w') hg rfl hdn (fun a ha => ?_) (h v' w' M' h1 h2 h3 h4)
  simp [execOp, resolve, invoke, builtin, ha.ev hx, ha.ev hy, hrun]

/-- append(v, x): one thing more. The literal that holds x has been made just before: its block b. -/
theorem o_app1 {t e B b : Nat} {x y : Operand} {ti te : TI} {M : Nat → Prop} {α : Type} [Rep α] {v u : Value} {l : List α} {z : α} (hT : TabOk P T) (hown : OwnSl e B M w v l) (hb : Box w b e (flat [u])) (hbM : ¬ M b) (hR : Rep.R M w u z) (hl : Low M w) (hB : B ≤ w.heap.size)
    (hx : Env.ev G x = some v) (hy : Env.ev G y = some (.slice (some ⟨b, 0, none⟩) 1 1)) (ht : T.get t = some ti) (htd : ti.d = .sl e) (hte : T.get e = some te) (hrs : te.size = Rep.sz α) (hz : te.zero.cells.size = te.size)
    (h63 : l.length + 1 < 140737488355328) (hbytes : (l.length + 1) * te.bytes ≤ 140737488355328)
    (hg : gd ops G ⟨some d, .call ⟨.builtin .append, #[x, y], #[t, t]⟩, ty, pos, af, g⟩ = some true) (hdn : Nat.blt d n = true)
    (h : ∀ v' w' M', OwnSl e B M' w' v' (l ++ [z]) → Stp B M M' w w' → (∀ b, b < w.heap.size → some b ≠ v.ownBlock → w'.heap[b]? = w.heap[b]?) → (∀ b, v'.ownBlock = some b → v.ownBlock = some b ∨ w.heap.size ≤ b) → K ((d, v') :: G) w') :
    OW P n ops Q G w ⟨some d, .call ⟨.builtin .append, #[x, y], #[t, t]⟩, ty, pos, af, g⟩ K := by
  have hsl : Sl M w (.slice (some ⟨b, 0, none⟩) 1 1) [z] := by
    refine ⟨_, 1, rfl, by simp, by simp, .inr ⟨b, 0, rfl, fun i y hy => ?_⟩⟩
    cases i with
    | zero =>
      simp at hy; subst hy
      refine ⟨u, hR, ?_⟩
      have := hb.at hbM
      simpa [flat] using this
    | succ i => simp at hy
  exact o_app hT hown hsl hl hB hx hy ht htd hte hrs hz h63 hbytes hg hdn h

/-- A slice literal that only is read. -/
theorem lit_sl {α : Type} [Rep α] {e b : Nat} {M : Nat → Prop} {w : World} {us : List Value} {l : List α} (hb : Box w b e (flat us)) (hbM : ¬ M b) (hR : Rs M w us l) (hl : l.length < 140737488355328) : Sl M w (.slice (some ⟨b, 0, none⟩) l.length l.length) l := by
  refine ⟨_, l.length, rfl, hl, Nat.le_refl _, .inr ⟨b, 0, rfl, fun i x hx => ?_⟩⟩
  obtain ⟨u, hu, hx⟩ := hR.get hx
  refine ⟨u, hx, hb.lt, hbM, fun j c hc => ?_⟩
  have := hb.cell (i * Rep.sz α + j) c (hR.flat_get hu j c hc)
  rwa [show 0 + i * Rep.sz α + j = 0 + (i * Rep.sz α + j) by omega]

/-! ## Stores -/

theorem run_store_row {P : Program} {T : Tab} (hT : TabOk P T) {t : TypeId} {ti : TI} (ht : T.get t = some ti) {w : World} {b E j : Nat} {cs : Array Value} (hh : w.heap[b]? = some (.cells cs E (0, 0))) {v : Value} (hv : v.cells.size = ti.size) (ho : ∀ u ∈ v.cells.toList, u.oneCell' = true)
    (hj : j + v.cells.size ≤ cs.size) : (storeVar t ⟨b, j, none⟩ v).run P w = .ok () (w.setRow b (cs.toList.take j ++ v.cells.toList ++ cs.toList.drop (j + v.cells.size)).toArray) := by
  have := run_storeCells_at P b j E v.cells.toList 0 cs w hh (by simpa using hj) ho
  simp only [Nat.add_zero, Array.length_toList] at this
  simp [storeVar, run_sizeOf hT ht, hv, this]

/-- A store into a block of the call's own. -/
theorem o_st {t : Nat} {x y : Operand} {ti : TI} {b j E : Nat} {cs : List Value} {v : Value} (hT : TabOk P T) (hb : Box w b E cs) (hx : Env.ev G x = some (.pointer (some ⟨b, j, none⟩))) (hy : Env.ev G y = some v) (ht : T.get t = some ti)
    (hv : v.cells.size = ti.size) (ho : ∀ u ∈ v.cells.toList, u.oneCell' = true) (hj : Nat.ble (j + ti.size) cs.length = true)
    (hg : gd ops G ⟨none, .store t x y, ty, pos, af, g⟩ = some true)
    (h : ∀ w', Box w' b E (cs.take j ++ v.cells.toList ++ cs.drop (j + v.cells.toList.length)) → Upd (fun z => z = b) w w' → (∀ B, B ≤ b → Below B w w') → K G w') : OW P n ops Q G w ⟨none, .store t x y, ty, pos, af, g⟩ K := by
  have hj' : j + v.cells.size ≤ cs.toArray.size := by rw [hv]; simpa using Nat.le_of_ble_eq_true hj
  have hrun := run_store_row hT ht hb.heap hv ho hj'
  refine o_unit (w' := w.setRow b (cs.take j ++ v.cells.toList ++ cs.drop (j + v.cells.size)).toArray) hg rfl (fun a ha => ?_) (h _ ⟨?_⟩ ⟨by simp, fun k _ hk => setRow_other w b k _ hk⟩ (fun B hB => ⟨rfl, rfl, rfl, by simp, fun k hk => setRow_other w b k _ (by omega)⟩))
  · simp [execOp, ha.ev hx, ha.ev hy, Instr.storeAt, Instr.sureAddr, hrun]
  · rw [setRow_heap w b _ _ E _ hb.heap, Array.length_toList]

theorem Upd.stp {B b : Nat} {M : Nat → Prop} {w w' : World} (h : Upd (fun z => z = b) w w') (hM : M b) (hl : Low M w) (hb : ∀ B, B ≤ b → Below B w w') (hB : B ≤ b) : Stp B M M w w' :=
  ⟨⟨h.1, fun x hx hn => h.2 x hx (fun e => hn (e ▸ hM))⟩, fun _ _ h => h, fun _ h => h, fun x hx => Nat.lt_of_lt_of_le (hl x hx) h.1, hb B hB⟩

theorem sz1 {s : Nat} {x : Value} (h : x.cells.size = s) : ∀ v ∈ [x], v.cells.size = s := by simpa using h
theorem sz2 {s : Nat} {x y : Value} (h : x.cells.size = s) (k : y.cells.size = s) : ∀ v ∈ [x, y], v.cells.size = s := by simp [h, k]
theorem sz3 {s : Nat} {x y z : Value} (h : x.cells.size = s) (k : y.cells.size = s) (m : z.cells.size = s) : ∀ v ∈ [x, y, z], v.cells.size = s := by simp [h, k, m]

/-- Cells of a slice of the call's own, now. -/
structure OAt (w : World) (b off : Nat) (cs : List Value) : Prop where
  cell : ∀ j v, cs[j]? = some v → w.cell? ⟨b, off + j, none⟩ = some v

theorem own_lit {α : Type} [Rep α] {e B b : Nat} {M : Nat → Prop} {us : List Value} {l : List α} (hb : Box w b e (flat us)) (hR : Rs M w us l) (hM : M b) (hB : B ≤ b) (hl : l.length ≤ maxLen) : OwnSl e B M w (.slice (some ⟨b, 0, none⟩) l.length l.length) l :=
  ⟨⟨us, ⟨hR.flat_length, .inr ⟨b, l.length, _, rfl, hB, hb.heap, Nat.le_refl _, hl, by simp [hR.flat_length], by rw [List.toList_toArray, ← hR.flat_length, List.take_length]⟩⟩, hR⟩, fun x hx => by simp [Value.ownBlock] at hx; subst hx; exact hM⟩

theorem ob_eq {b o l c x : Nat} (h : (Value.slice (some ⟨b, o, none⟩) l c).ownBlock = some x) : b = x := by simpa [Value.ownBlock] using h
theorem own_litS {α : Type} [Rep α] {e B b : Nat} {M : Nat → Prop} {w w' : World} {us : List Value} {l : List α} (s : Stp B M (Add M b) w w') (hb : Box w' b e (flat us)) (hR : Rs (Add M b) w' us l) (q : b = w.heap.size) (hB : B ≤ w.heap.size) (hl : l.length ≤ maxLen) : OwnSl e B (Add M b) w' (.slice (some ⟨b, 0, none⟩) l.length l.length) l :=
  let _ := s; own_lit hb hR (.inr rfl) (by omega) hl

theorem At.sl {α : Type} [Rep α] {M M' : Nat → Prop} {b o : Nat} {v : Value} {l : List α} (h : At M w b o v.cells.toList) (hs : Sl M' w v l) : At M w b o [v] := by
  rw [hs.cells] at h; exact h
theorem OAt.sl {α : Type} [Rep α] {M' : Nat → Prop} {b o : Nat} {v : Value} {l : List α} (h : OAt w b o v.cells.toList) (hs : Sl M' w v l) : OAt w b o [v] := by
  rw [hs.cells] at h; exact h

/-- The length of a slice of the call's own. -/
theorem o_lenO {α : Type} [Rep α] {e B : Nat} {M : Nat → Prop} {v : Value} {l : List α} {t : TypeId} {x : Operand} {ti : TI} {e' : Nat} (hT : TabOk P T) (hs : OwnSl e B M w v l) (hx : Env.ev G x = some v) (ht : T.get t = some ti) (htd : ti.d = .sl e')
    (hg : gd ops G ⟨some d, .call ⟨.builtin .len, #[x], #[t]⟩, ty, pos, af, g⟩ = some true) (hdn : Nat.blt d n = true) (h : K ((d, .int .i64 (l.length : Int)) :: G) w) :
    OW P n ops Q G w ⟨some d, .call ⟨.builtin .len, #[x], #[t]⟩, ty, pos, af, g⟩ K := by
  obtain ⟨a, c, rfl, _⟩ := hs.val
  obtain ⟨td, _, _, _⟩ := ti
  simp only at htd
  subst htd
  exact o_p hT (by simp [pureS, hx, ht]) hg hdn h

/-- The address of an element of a slice of the call's own. -/
theorem o_ixO {t e B : Nat} {x i : Operand} {k : IntKind} {z : Int} {j : Nat} {α : Type} [Rep α] {M : Nat → Prop} {v : Value} {l : List α} {y : α} {ti te : TI} (hT : TabOk P T) (hs : OwnSl e B M w v l) (hy : l[j]? = some y) (hx : Env.ev G x = some v) (hi : Env.ev G i = some (.int k z)) (hj : z = (j : Int))
    (ht : T.get t = some ti) (htd : ti.d = .sl e) (hte : T.get e = some te) (hsz : te.size = Rep.sz α)
    (hg : gd ops G ⟨some d, .indexAddr t x i, ty, pos, af, g⟩ = some true) (hdn : Nat.blt d n = true)
    (h : ∀ b u, v.ownBlock = some b → Rep.R M w u y → OAt w b (j * te.size) u.cells.toList → K ((d, .pointer (some ⟨b, j * te.size, none⟩)) :: G) w) : OW P n ops Q G w ⟨some d, .indexAddr t x i, ty, pos, af, g⟩ K := by
  obtain ⟨us, hr, hrs⟩ := hs.row
  have hlt : j < l.length := (List.getElem?_eq_some_iff.1 hy).1
  obtain ⟨u, hu, hR⟩ := hrs.get hy
  rcases hr.2 with ⟨rfl, hn⟩ | ⟨b, cap, cur, rfl, _, _, _⟩
  · omega
  · refine o_ix hT hx hi ht htd hte hj hlt hg hdn ?_
    rw [Nat.zero_add]
    refine h b u rfl hR ⟨fun c q hc => ?_⟩
    have := hr.cells (g := b) rfl (j * Rep.sz α + c) q (hrs.flat_get hu c q hc)
    rw [addr_add, Nat.zero_add] at this
    rw [hsz]; exact this

theorem Rs.set {α : Type} [Rep α] {M : Nat → Prop} {w : World} : ∀ {us : List Value} {l : List α}, Rs M w us l → ∀ (j : Nat) {u : Value} {y : α}, Rep.R M w u y → Rs M w (us.set j u) (l.set j y)
  | [], [], _, _, _, _, _ => trivial
  | _ :: _, _ :: _, h, 0, _, _, hr => ⟨hr, h.2⟩
  | _ :: _, _ :: _, h, j + 1, _, _, hr => ⟨h.1, Rs.set h.2 j hr⟩
  | [], _ :: _, h, _, _, _, _ => h.elim
  | _ :: _, [], h, _, _, _, _ => h.elim

theorem flat_set {s : Nat} : ∀ (us : List Value), (∀ v ∈ us, v.cells.size = s) → ∀ (j : Nat) (u : Value), j < us.length → u.cells.size = s →
    flat (us.set j u) = (flat us).take (j * s) ++ u.cells.toList ++ (flat us).drop (j * s + s)
  | [], _, j, u, hj, _ => by simp at hj
  | y :: ys, h, 0, u, _, hu => by
    have hy : y.cells.toList.length = s := by simpa using h y List.mem_cons_self
    simp only [List.set_cons_zero, flat, List.flatMap_cons, Nat.zero_mul, List.take_zero, List.nil_append, Nat.zero_add]
    rw [List.drop_append_of_le_length (by omega), List.drop_of_length_le (by omega), List.nil_append]
  | y :: ys, h, j + 1, u, hj, hu => by
    have hy : y.cells.toList.length = s := by simpa using h y List.mem_cons_self
    have ih := flat_set ys (fun v hv => h v (List.mem_cons_of_mem _ hv)) j u (by simpa using hj) hu
    simp only [List.set_cons_succ]
    have e1 : flat (y :: ys.set j u) = y.cells.toList ++ flat (ys.set j u) := by simp [flat]
    have e2 : flat (y :: ys) = y.cells.toList ++ flat ys := by simp [flat]
    rw [e1, e2, ih, Nat.add_mul, Nat.one_mul]
    have t1 : List.take (j * s + s) y.cells.toList = y.cells.toList := List.take_of_length_le (by rw [hy]; omega)
    have t2 : List.drop (j * s + s + s) y.cells.toList = [] := List.drop_of_length_le (by rw [hy]; omega)
    rw [List.take_append, List.drop_append, t1, t2, hy]
    rw [show j * s + s - s = j * s by omega, show j * s + s + s - s = j * s + s by omega]
    simp

theorem take_splice (c u : List Value) (j m : Nat) (h1 : j + u.length ≤ m) (h2 : m ≤ c.length) :
    (c.take j ++ u ++ c.drop (j + u.length)).take m = c.take j ++ u ++ (c.take m).drop (j + u.length) := by
  have e1 : (c.take j).length = j := by rw [List.length_take]; omega
  have t1 : (c.take j).take m = c.take j := List.take_of_length_le (by rw [e1]; omega)
  have t2 : u.take (m - j) = u := List.take_of_length_le (by omega)
  rw [List.append_assoc, List.take_append, t1, e1, List.take_append, t2, List.drop_take, List.append_assoc]
  congr 3
  omega

/-- A store of an element into a slice of the call's own. -/
theorem o_stO {t e B : Nat} {x y : Operand} {b o j : Nat} {α : Type} [Rep α] {M : Nat → Prop} {v u : Value} {l : List α} {z : α} {te : TI} (hT : TabOk P T) (hs : OwnSl e B M w v l) (hb : v.ownBlock = some b) (hj : j < l.length) (hR : Rep.R M w u z) (hl : Low M w)
    (hx : Env.ev G x = some (.pointer (some ⟨b, o, none⟩))) (ho : o = j * te.size) (hy : Env.ev G y = some u) (ht : T.get t = some te) (hsz : te.size = Rep.sz α)
    (hg : gd ops G ⟨none, .store t x y, ty, pos, af, g⟩ = some true)
    (h : ∀ w', OwnSl e B M w' v (l.set j z) → Stp B M M w w' → (∀ k, k < w.heap.size → k ≠ b → w'.heap[k]? = w.heap[k]?) → K G w') : OW P n ops Q G w ⟨none, .store t x y, ty, pos, af, g⟩ K := by
  obtain ⟨us, hr, hrs⟩ := hs.row
  subst ho
  rcases hr.2 with ⟨rfl, hn⟩ | ⟨b', cap, cur, rfl, hB, hh, hnc, hcm, hcs, htake⟩
  · omega
  simp only [Value.ownBlock, Option.some.injEq] at hb
  subst hb
  have husz : u.cells.size = te.size := by rw [hsz]; exact Rep.size hR
  have hlen : us.length = l.length := hrs.length
  have hle : (j + 1) * te.size ≤ l.length * te.size := Nat.mul_le_mul_right _ hj
  have hle2 : l.length * te.size ≤ cap * te.size := Nat.mul_le_mul_right _ hnc
  rw [Nat.add_mul, Nat.one_mul] at hle
  have hfit : j * te.size + u.cells.size ≤ cur.size := by rw [husz, hcs, ← hsz]; omega
  have hrun := run_store_row hT ht hh husz (Rep.one hR) hfit
  have hM := hs.inM b' rfl
  refine o_unit (w' := w.setRow b' (cur.toList.take (j * te.size) ++ u.cells.toList ++ cur.toList.drop (j * te.size + u.cells.size)).toArray) hg rfl (fun a ha => ?_)
    (h _ ⟨⟨us.set j u, ⟨?_, .inr ⟨b', cap, _, ?_, hB, setRow_heap w b' cur _ e _ hh, ?_, hcm, ?_, ?_⟩⟩, ?_⟩, hs.inM⟩ ?_ (fun k _ hk => setRow_other w b' k _ hk))
  · simp [execOp, ha.ev hx, ha.ev hy, Instr.storeAt, Instr.sureAddr, hrun]
  · have := (hrs.set j hR).flat_length
    rw [this]
  · rw [List.length_set]
  · rw [List.length_set]; exact hnc
  · simp only [List.size_toArray, List.length_append, List.length_take, List.length_drop, Array.length_toList]
    omega
  · rw [List.length_set, flat_set us hrs.sizes j u (by omega) (by rw [husz, hsz]), ← htake]
    rw [hsz] at hle hle2 hfit husz
    simp only [hsz, husz]
    have hct : cur.toList.length = cap * Rep.sz α := by simpa using hcs
    have hul : u.cells.toList.length = Rep.sz α := by simpa using husz
    have hml : (j + 1) * Rep.sz α ≤ l.length * Rep.sz α := Nat.mul_le_mul_right _ hj
    rw [Nat.add_mul, Nat.one_mul] at hml
    have := take_splice cur.toList u.cells.toList (j * Rep.sz α) (l.length * Rep.sz α) (by rw [hul]; exact hml) (by rw [hct]; exact hle2)
    rw [hul] at this
    rw [this, List.take_take, Nat.min_eq_left (by omega)]
  · exact Rs.set (Rs.upd hrs ⟨by simp, fun k _ hk => setRow_other w b' k _ (fun e => hk (e ▸ hM))⟩) j (Rep.upd hR ⟨by simp, fun k _ hk => setRow_other w b' k _ (fun e => hk (e ▸ hM))⟩)
  · exact ⟨⟨by simp, fun k _ hk => setRow_other w b' k _ (fun e => hk (e ▸ hM))⟩, fun _ _ h => h, fun _ h => h, fun k hk => by simpa using hl k hk, ⟨rfl, rfl, rfl, by simp, fun k hk => setRow_other w b' k _ (by omega)⟩⟩
end
end Rw
