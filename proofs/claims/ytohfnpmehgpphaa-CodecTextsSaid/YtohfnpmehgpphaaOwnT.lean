/- Trees of the call's own: every part lies in a block that no other part uses, so that parts may be written. No program in sight. -/
import Derived.Test.YtohfnpmehgpphaaTy
import Derived.Test.YtohfnpmehgpphaaBox
namespace Rw
open Go Go.RowKit

/-- A value of so many cells, as it is. -/
structure VN (n : Nat) where
  v : Value
instance (n : Nat) : Rep (VN n) where
  sz := n + 1
  R := fun _ _ v x => v = x.v ∧ v.cells.size = n + 1 ∧ ∀ u ∈ v.cells.toList, u.oneCell' = true
  pos := Nat.succ_pos n
  size := fun h => h.2.1
  one := fun h => h.2.2
  upd := fun h _ => h
  wk := fun h _ => h

section
variable {k e B B' : Nat} {M M' : Nat → Prop} {w w' : World} {v : Value} {l : List (VN k)}
theorem Rs.vn : ∀ {us : List Value} {l : List (VN k)}, Rs M w us l → Rs M' w' us l
  | [], [], _ => trivial
  | _ :: _, _ :: _, h => ⟨h.1, Rs.vn h.2⟩
  | [], _ :: _, h => h.elim
  | _ :: _, [], h => h.elim
/-- A slice of such values depends on its block alone. -/
theorem OwnSl.keepV (h : OwnSl e B M w v l) (hM : ∀ b, v.ownBlock = some b → M' b) (hb : ∀ b cs T, v.ownBlock = some b → w.heap[b]? = some (.cells cs T (0, 0)) → w'.heap[b]? = w.heap[b]?) : OwnSl e B M' w' v l := by
  obtain ⟨us, hr, hs⟩ := h.row
  refine ⟨⟨us, ⟨hr.1, ?_⟩, hs.vn⟩, hM⟩
  rcases hr.2 with hn | ⟨g, cap, cur, rfl, hB, hg, rest⟩
  · exact .inl hn
  · exact .inr ⟨g, cap, cur, rfl, hB, (hb g _ _ rfl hg).trans hg, rest⟩
theorem OwnSl.geV (h : OwnSl e B M w v l) (hB : B' ≤ B) : OwnSl e B' M w v l := by
  obtain ⟨us, hr, hs⟩ := h.row
  refine ⟨⟨us, ⟨hr.1, ?_⟩, hs⟩, h.inM⟩
  rcases hr.2 with hn | ⟨g, cap, cur, rfl, hB', hg, rest⟩
  · exact .inl hn
  · exact .inr ⟨g, cap, cur, rfl, Nat.le_trans hB hB', hg, rest⟩
theorem OwnSl.slV (h : OwnSl e B M w v l) (hl : l.length < 140737488355328) {M0 : Nat → Prop} (h0 : ∀ b, v.ownBlock = some b → ¬ M0 b) : Sl M0 w v l := by
  obtain ⟨us, hr, hs⟩ := h.row
  have hlt := hr.lt
  rcases hr.2 with ⟨rfl, hn⟩ | ⟨g, cap, cur, rfl, hB, hg, hc, _, _, htake⟩
  · have : l = [] := List.eq_nil_of_length_eq_zero hn
    subst this
    exact sl_nil
  · refine ⟨_, cap, rfl, hl, hc, .inr ⟨g, 0, rfl, fun i x hx => ?_⟩⟩
    obtain ⟨u, hu, hR⟩ := hs.get hx
    refine ⟨u, hR, (hlt g rfl).2, h0 g rfl, fun j c hc => ?_⟩
    have := hr.cells (g := g) rfl (i * Rep.sz (VN k) + j) c (hs.flat_get hu j c hc)
    rw [addr_add] at this
    rwa [show 0 + i * Rep.sz (VN k) + j = 0 + (i * Rep.sz (VN k) + j) by omega]
/-- Things of so many cells, whose values are given. -/
theorem Sl.ofV {α : Type} [Rep α] (hk : Rep.sz α = k + 1) {ts : List α} (h : Sl M w v l) (hlen : l.length = ts.length) (hu : ∀ (i : Nat) (x : α) (u : VN k), ts[i]? = some x → l[i]? = some u → Rep.R M w u.v x) : Sl M w v ts := by
  obtain ⟨a, c, hv, h1, h2, he⟩ := h
  refine ⟨a, c, by rw [hv, hlen], by omega, by omega, ?_⟩
  rcases he with he | ⟨b, off, ha, hx⟩
  · left
    subst he
    exact List.eq_nil_of_length_eq_zero hlen.symm
  · right
    refine ⟨b, off, ha, fun i x hi => ?_⟩
    have hlt : i < l.length := by rw [hlen]; exact (List.getElem?_eq_some_iff.1 hi).1
    obtain ⟨u, ⟨e1, _⟩, hat⟩ := hx i _ (List.getElem?_eq_getElem hlt)
    refine ⟨u, by rw [e1]; exact hu i x _ hi (List.getElem?_eq_getElem hlt), ?_⟩
    rw [hk]; exact hat
end

/-- The blocks of F, and those that are new. -/
def Plus (F : Nat → Prop) (w w' : World) : Nat → Prop := fun c => F c ∨ (w.heap.size ≤ c ∧ c < w'.heap.size)
theorem plus_le {F : Nat → Prop} {w w1 w2 : World} (h : w1.heap.size ≤ w2.heap.size) {c : Nat} (hc : Plus F w w1 c) : Plus F w w2 c := by
  rcases hc with hc | hc
  · exact .inl hc
  · exact .inr ⟨hc.1, by omega⟩
theorem plus_lt {F : Nat → Prop} {B : Nat} {w w' : World} (h : ∀ c, F c → B ≤ c ∧ c < w.heap.size) (hB : B ≤ w.heap.size) (hw : w.heap.size ≤ w'.heap.size) {c : Nat} (hc : Plus F w w' c) : B ≤ c ∧ c < w'.heap.size := by
  rcases hc with hc | hc
  · have := h c hc; omega
  · omega

/-- The blocks of Q are as they were. -/
structure Kept (w0 w : World) (Q : Nat → Prop) : Prop where
  size : w0.heap.size ≤ w.heap.size
  old : ∀ x, Q x → x < w0.heap.size
  blk : ∀ x, Q x → w.heap[x]? = w0.heap[x]?
theorem Kept.refl {w : World} {Q : Nat → Prop} (h : ∀ x, Q x → x < w.heap.size) : Kept w w Q := ⟨Nat.le_refl _, h, fun _ _ => rfl⟩
theorem Kept.lt {w0 w : World} {Q : Nat → Prop} (h : Kept w0 w Q) (x : Nat) (hx : Q x) : 0 ≤ x ∧ x < w.heap.size := ⟨Nat.zero_le _, Nat.lt_of_lt_of_le (h.old x hx) h.size⟩
theorem Kept.ext {w0 w w' : World} {Q M : Nat → Prop} {B : Nat} (h : Kept w0 w Q) (_hl : Low M w) (_hB : B ≤ w.heap.size) (e : Ext w w') : Kept w0 w' Q := ⟨Nat.le_trans h.size e.size, h.old, fun x hx => (e.block x (h.lt x hx).2).trans (h.blk x hx)⟩
theorem Kept.stp {w0 w w' : World} {Q M M' : Nat → Prop} {B : Nat} (h : Kept w0 w Q) (s : Stp B M M' w w') (hb : ∀ x, Q x → w'.heap[x]? = w.heap[x]?) : Kept w0 w' Q := ⟨Nat.le_trans h.size s.upd.1, h.old, fun x hx => (hb x hx).trans (h.blk x hx)⟩
/-- What isn't in F. -/
def Out (F : Nat → Prop) (w : World) : Nat → Prop := fun x => x < w.heap.size ∧ ¬ F x

/-- One set or the other. -/
def Or2 (M G : Nat → Prop) : Nat → Prop := fun c => M c ∨ G c
/-- New blocks may be written, too. -/
theorem Stp.more {B : Nat} {M M' G : Nat → Prop} {w w' : World} (h : Stp B M M' w w') (hG : ∀ c, G c → w.heap.size ≤ c ∧ c < w'.heap.size) : Stp B M (Or2 M' G) w w' :=
  ⟨h.upd, fun b hb hm => hm.elim (h.wk b hb) (fun hg => by have := (hG b hg).1; omega), fun b hb => .inl (h.sub b hb), fun b hb => hb.elim (h.low b) (fun hg => (hG b hg).2), h.below⟩

/-- The first i have been mapped. -/
def mapTo {α : Type} (g : α → α) (l : List α) (i : Nat) : List α := (l.take i).map g ++ l.drop i
section
variable {α : Type} {g : α → α} {l : List α} {i : Nat}
theorem mapTo_zero : mapTo g l 0 = l := by simp [mapTo]
theorem mapTo_len : (mapTo g l i).length = l.length := by simp [mapTo]; omega
theorem mapTo_get (hi : i < l.length) : (mapTo g l i)[i]? = some l[i] := by
  unfold mapTo
  rw [List.getElem?_append_right (by simp; omega), List.getElem?_drop]
  simp only [List.length_map, List.length_take]
  rw [show i + (i - min i l.length) = i by omega, List.getElem?_eq_getElem hi]
theorem mapTo_set (hi : i < l.length) : (mapTo g l i).set i (g l[i]) = mapTo g l (i + 1) := by
  unfold mapTo
  rw [List.take_succ_eq_append_getElem hi, List.map_append, List.drop_eq_getElem_cons hi, List.set_append_right _ _ (by simp; omega)]
  simp only [List.length_map, List.length_take]
  rw [show i - min i l.length = 0 by omega, List.set_cons_zero, List.append_assoc]
  rfl
theorem mapTo_all (hi : l.length ≤ i) : mapTo g l i = l.map g := by
  unfold mapTo
  rw [List.take_of_length_le hi, List.drop_eq_nil_of_le hi, List.append_nil]
end

/-- The first i are those of tl. -/
def upTo {α : Type} (tl l : List α) (i : Nat) : List α := tl.take i ++ l.drop i
section
variable {α : Type} {tl l : List α} {i : Nat}
theorem upTo_zero : upTo tl l 0 = l := by simp [upTo]
theorem upTo_len (h : tl.length = l.length) : (upTo tl l i).length = l.length := by simp [upTo]; omega
theorem upTo_get (h : tl.length = l.length) (hi : i < l.length) : (upTo tl l i)[i]? = some l[i] := by
  unfold upTo
  rw [List.getElem?_append_right (by simp; omega), List.getElem?_drop]
  simp only [List.length_take]
  rw [show i + (i - min i tl.length) = i by omega, List.getElem?_eq_getElem hi]
theorem upTo_set (h : tl.length = l.length) (hi : i < l.length) : (upTo tl l i).set i (tl[i]'(by omega)) = upTo tl l (i + 1) := by
  unfold upTo
  rw [List.take_succ_eq_append_getElem (show i < tl.length by omega), List.drop_eq_getElem_cons hi, List.set_append_right _ _ (by simp; omega)]
  simp only [List.length_take]
  rw [show i - min i tl.length = 0 by omega, List.set_cons_zero, List.append_assoc]
  rfl
theorem upTo_all (h : tl.length = l.length) (hi : l.length ≤ i) : upTo tl l i = tl := by
  unfold upTo
  rw [List.take_of_length_le (by omega), List.drop_eq_nil_of_le hi, List.append_nil]
end

/-- The value is the tree; all its blocks are in F (and from E's rows, from B on). -/
inductive OTy (E B : Nat) (w : World) : Ty → Value → (Nat → Prop) → Prop
  | mk {op n : Int} {name : ByteArray} {kids : List Ty} {kv : Value} (us : List (VN 3)) (Fs : Nat → Nat → Prop) (F : Nat → Prop)
      (hop : 0 ≤ op ∧ op ≤ 255) (hs : name.size < 140737488355328) (hn : I64 n) (hl : kids.length < 140737488355328)
      (hlt : ∀ c, F c → B ≤ c ∧ c < w.heap.size) (hr : OwnSl E B F w kv us) (hlen : us.length = kids.length)
      (hu : ∀ (i : Nat) (x : Ty) (u : VN 3), kids[i]? = some x → us[i]? = some u → OTy E B w x u.v (Fs i))
      (hF : ∀ i c, i < kids.length → Fs i c → F c ∧ kv.ownBlock ≠ some c)
      (hd : ∀ i j c, i < kids.length → j < kids.length → i ≠ j → Fs i c → ¬ Fs j c) :
      OTy E B w (.mk op name n kids) (.agg #[.int .u8 op, .string name, .int .i64 n, kv]) F

/-- Trees, one by one, that share nothing. -/
structure OTs (E B : Nat) (w : World) (us : List (VN 3)) (ts : List Ty) (F : Nat → Prop) : Prop where
  len : us.length = ts.length
  lt : ∀ c, F c → B ≤ c ∧ c < w.heap.size
  fam : ∃ Fs : Nat → Nat → Prop, (∀ (i : Nat) (x : Ty) (u : VN 3), ts[i]? = some x → us[i]? = some u → OTy E B w x u.v (Fs i)) ∧ (∀ i c, i < ts.length → Fs i c → F c) ∧
    (∀ i j c, i < ts.length → j < ts.length → i ≠ j → Fs i c → ¬ Fs j c)

section
variable {E B B' : Nat} {w w' : World} {t x : Ty} {v : Value} {us : List (VN 3)} {ts : List Ty} {F F' G G' : Nat → Prop} {M M' : Nat → Prop}

theorem oty_open (h : OTy E B w t v F) : ∃ (kv : Value) (us : List (VN 3)) (H : Nat → Prop), v = .agg #[.int .u8 t.op, .string t.name, .int .i64 t.n, kv] ∧ (0 ≤ t.op ∧ t.op ≤ 255) ∧ t.name.size < 140737488355328 ∧ I64 t.n ∧ t.kids.length < 140737488355328 ∧
    OwnSl E B F w kv us ∧ OTs E B w us t.kids H ∧ (∀ c, H c → F c ∧ kv.ownBlock ≠ some c) := by
  cases h with
  | mk us Fs F hop hs hn hl hlt hr hlen hu hF hd =>
    refine ⟨_, us, fun c => ∃ i, i < _ ∧ Fs i c, rfl, hop, hs, hn, hl, hr, ⟨hlen, fun c ⟨i, hi, hc⟩ => hlt c (hF i c hi hc).1, Fs, hu, fun i c hi hc => ⟨i, hi, hc⟩, hd⟩, fun c ⟨i, hi, hc⟩ => hF i c hi hc⟩
theorem oty_mk {kv : Value} {op n : Int} {name : ByteArray} {kids : List Ty} {H : Nat → Prop} (h1 : 0 ≤ op ∧ op ≤ 255) (h2 : name.size < 140737488355328) (h3 : I64 n) (h4 : kids.length < 140737488355328) (hlt : ∀ c, F c → B ≤ c ∧ c < w.heap.size)
    (hr : OwnSl E B F w kv us) (hk : OTs E B w us kids H) (hH : ∀ c, H c → F c ∧ kv.ownBlock ≠ some c) : OTy E B w (.mk op name n kids) (.agg #[.int .u8 op, .string name, .int .i64 n, kv]) F := by
  obtain ⟨Fs, h5, h6, h7⟩ := hk.fam
  exact .mk us Fs F h1 h2 h3 h4 hlt hr hk.len h5 (fun i c hi hc => hH c (h6 i c hi hc)) h7
theorem OTy.lt (h : OTy E B w t v F) : ∀ c, F c → B ≤ c ∧ c < w.heap.size := by
  cases h with
  | mk us Fs F hop hs hn hl hlt => exact hlt
/-- Blocks of the tree are as they were. -/
theorem OTy.keepC (h : OTy E B w t v F) (hs : w.heap.size ≤ w'.heap.size) (hw : ∀ c cs T, F c → w.heap[c]? = some (.cells cs T (0, 0)) → w'.heap[c]? = w.heap[c]?) : OTy E B w' t v F := by
  induction h with
  | mk us Fs F hop hnm hn hl hlt hr hlen hu hF hd ih =>
    exact .mk us Fs F hop hnm hn hl (fun c hc => ⟨(hlt c hc).1, Nat.lt_of_lt_of_le (hlt c hc).2 hs⟩) (hr.keepV hr.inM fun b cs T hb hg => hw b cs T (hr.inM b hb) hg) hlen (fun i x u hx hu' => ih i x u hx hu' fun c cs T hc => hw c cs T (hF i c (List.getElem?_eq_some_iff.1 hx).1 hc).1) hF hd
theorem OTy.keep (h : OTy E B w t v F) (hs : w.heap.size ≤ w'.heap.size) (hw : ∀ c, F c → w'.heap[c]? = w.heap[c]?) : OTy E B w' t v F := h.keepC hs fun c _ _ hc _ => hw c hc
theorem OTy.ext (h : OTy E B w t v F) (_hl : Low M w) (_hB : B ≤ w.heap.size) (e : Ext w w') : OTy E B w' t v F := h.keep e.size fun c hc => e.block c (h.lt c hc).2
theorem OTy.stp (h : OTy E B w t v F) (s : Stp B' M M' w w') (hw : ∀ c, F c → w'.heap[c]? = w.heap[c]?) : OTy E B w' t v F := h.keep s.upd.1 hw
theorem OTy.mono (h : OTy E B w t v F) (hF : ∀ c, F c → F' c) (hlt : ∀ c, F' c → B ≤ c ∧ c < w.heap.size) : OTy E B w t v F' := by
  cases h with
  | mk us Fs F hop hs hn hl _ hr hlen hu hFs hd => exact .mk us Fs F' hop hs hn hl hlt (hr.keepV (fun b hb => hF b (hr.inM b hb)) fun _ _ _ _ _ => rfl) hlen hu (fun i c hi hc => ⟨hF c (hFs i c hi hc).1, (hFs i c hi hc).2⟩) hd
theorem OTy.ge (h : OTy E B w t v F) (hB : B' ≤ B) : OTy E B' w t v F := by
  induction h with
  | mk us Fs F hop hs hn hl hlt hr hlen hu hF hd ih => exact .mk us Fs F hop hs hn hl (fun c hc => ⟨Nat.le_trans hB (hlt c hc).1, (hlt c hc).2⟩) (hr.geV hB) hlen ih hF hd
theorem OTy.size (h : OTy E B w t v F) : v.cells.size = 4 := by cases h; rfl
/-- The tree is read. -/
theorem OTy.rep (h : OTy E B w t v F) (hM : ∀ c, F c → ¬ M c) : Rep.R M w v t := by
  induction h with
  | mk us Fs F hop hs hn hl hlt hr hlen hu hF hd ih =>
    exact ty_mk hop hs hn ((hr.slV (M0 := M) (by omega) (fun b hb => hM b (hr.inM b hb))).ofV (k := 3) rfl hlen fun i x u hx hu' => ih i x u hx hu' fun c hc => hM c (hF i c (List.getElem?_eq_some_iff.1 hx).1 hc).1)
theorem OTy.one (h : OTy E B w t v F) : ∀ u ∈ v.cells.toList, u.oneCell' = true := Rep.one (h.rep (M := NoM) fun _ _ h => h)
theorem OTy.vn (h : OTy E B w t v F) : Rep.R M w' v (⟨v⟩ : VN 3) := ⟨rfl, h.size, h.one⟩

/-- A new tree is read. -/
theorem OTy.repNew {w0 : World} (h : OTy E B w t v (Plus NoM w0 w)) (hlow : Low M w0) : Rep.R M w v t := h.rep fun c hc hm => by
  have := hlow c hm
  rcases hc with hc | hc
  · exact hc
  · omega
theorem ots_nil (hlt : ∀ c, F c → B ≤ c ∧ c < w.heap.size) : OTs E B w [] [] F := ⟨rfl, hlt, fun _ _ => False, fun i x u h => by simp at h, fun i c h => by simp at h, fun i j c h => by simp at h⟩
theorem OTs.keepC (h : OTs E B w us ts F) (hs : w.heap.size ≤ w'.heap.size) (hw : ∀ c cs T, F c → w.heap[c]? = some (.cells cs T (0, 0)) → w'.heap[c]? = w.heap[c]?) : OTs E B w' us ts F := by
  obtain ⟨Fs, h5, h6, h7⟩ := h.fam
  exact ⟨h.len, fun c hc => ⟨(h.lt c hc).1, Nat.lt_of_lt_of_le (h.lt c hc).2 hs⟩, Fs, fun i x u hx hu => (h5 i x u hx hu).keepC hs fun c cs T hc => hw c cs T (h6 i c (List.getElem?_eq_some_iff.1 hx).1 hc), h6, h7⟩
theorem OTs.keep (h : OTs E B w us ts F) (hs : w.heap.size ≤ w'.heap.size) (hw : ∀ c, F c → w'.heap[c]? = w.heap[c]?) : OTs E B w' us ts F := h.keepC hs fun c _ _ hc _ => hw c hc
theorem OTs.ext (h : OTs E B w us ts F) (_hl : Low M w) (_hB : B ≤ w.heap.size) (e : Ext w w') : OTs E B w' us ts F := h.keep e.size fun c hc => e.block c (h.lt c hc).2
theorem OTs.stp (h : OTs E B w us ts F) (s : Stp B' M M' w w') (hw : ∀ c, F c → w'.heap[c]? = w.heap[c]?) : OTs E B w' us ts F := h.keep s.upd.1 hw
theorem OTs.mono (h : OTs E B w us ts F) (hF : ∀ c, F c → F' c) (hlt : ∀ c, F' c → B ≤ c ∧ c < w.heap.size) : OTs E B w us ts F' := by
  obtain ⟨Fs, h5, h6, h7⟩ := h.fam
  exact ⟨h.len, hlt, Fs, h5, fun i c hi hc => hF c (h6 i c hi hc), h7⟩
theorem OTs.rep (h : OTs E B w us ts F) (hM : ∀ c, F c → ¬ M c) : ∀ (i : Nat) (x : Ty) (u : VN 3), ts[i]? = some x → us[i]? = some u → Rep.R M w u.v x := by
  obtain ⟨Fs, h5, h6, h7⟩ := h.fam
  exact fun i x u hx hu => (h5 i x u hx hu).rep fun c hc => hM c (h6 i c (List.getElem?_eq_some_iff.1 hx).1 hc)
/-- A slice of them is read. -/
theorem OTs.sl {e : Nat} {kv : Value} (h : OTs E B w us ts F) (hr : OwnSl e B' M' w kv us) (hl : ts.length < 140737488355328) (hM : ∀ c, F c → ¬ M c) (hb : ∀ b, kv.ownBlock = some b → ¬ M b) : Sl M w kv ts :=
  (hr.slV (by rw [h.len]; exact hl) hb).ofV (k := 3) rfl h.len (h.rep hM)
/-- One more, behind. -/
theorem OTs.app (h : OTs E B w us ts F) (hx : OTy E B w x v G) (hd : ∀ c, G c → ¬ F c) : OTs E B w (us ++ [⟨v⟩]) (ts ++ [x]) (fun c => F c ∨ G c) := by
  obtain ⟨Fs, h5, h6, h7⟩ := h.fam
  refine ⟨by simp [h.len], fun c hc => hc.elim (h.lt c) (hx.lt c), fun i c => if i < ts.length then Fs i c else G c, fun i y u hy hu => ?_, fun i c hi hc => ?_, fun i j c hi hj hij hc hc' => ?_⟩
  · by_cases hlt : i < ts.length
    · have hlt' : i < us.length := by rw [h.len]; exact hlt
      rw [List.getElem?_append_left hlt] at hy
      rw [List.getElem?_append_left hlt'] at hu
      simp only [hlt, if_true]
      exact h5 i y u hy hu
    · have h8 := (List.getElem?_eq_some_iff.1 hy).1
      simp only [List.length_append, List.length_singleton] at h8
      obtain rfl : i = ts.length := by omega
      rw [List.getElem?_append_right (Nat.le_refl _)] at hy
      rw [← h.len, List.getElem?_append_right (Nat.le_refl _)] at hu
      simp at hy hu
      subst hy; subst hu
      simpa using hx
  · by_cases hlt : i < ts.length
    · simp only [hlt, if_true] at hc; exact .inl (h6 i c hlt hc)
    · simp only [hlt, if_false] at hc; exact .inr hc
  · simp only [List.length_append, List.length_singleton] at hi hj
    by_cases hlt : i < ts.length
    · simp only [hlt, if_true] at hc
      by_cases hlt' : j < ts.length
      · simp only [hlt', if_true] at hc'; exact h7 i j c hlt hlt' hij hc hc'
      · simp only [hlt', if_false] at hc'; exact hd c hc' (h6 i c hlt hc)
    · simp only [hlt, if_false] at hc
      by_cases hlt' : j < ts.length
      · simp only [hlt', if_true] at hc'; exact hd c hc (h6 j c hlt' hc')
      · omega

/-- .. with number i taken out: its blocks are G. -/
structure OTh (E B : Nat) (w : World) (us : List (VN 3)) (ts : List Ty) (i : Nat) (F G : Nat → Prop) : Prop where
  len : us.length = ts.length
  at' : i < ts.length
  lt : ∀ c, F c → B ≤ c ∧ c < w.heap.size
  fam : ∃ Fs : Nat → Nat → Prop, (∀ (j : Nat) (x : Ty) (u : VN 3), j ≠ i → ts[j]? = some x → us[j]? = some u → OTy E B w x u.v (Fs j)) ∧ (∀ j c, j < ts.length → j ≠ i → Fs j c → F c ∧ ¬ G c) ∧
    (∀ j k c, j < ts.length → k < ts.length → j ≠ i → k ≠ i → j ≠ k → Fs j c → ¬ Fs k c)
theorem OTs.take (h : OTs E B w us ts F) {i : Nat} (hx : ts[i]? = some x) : ∃ (u : VN 3) (G : Nat → Prop), us[i]? = some u ∧ OTy E B w x u.v G ∧ (∀ c, G c → F c) ∧ OTh E B w us ts i F G := by
  obtain ⟨Fs, h5, h6, h7⟩ := h.fam
  have hi := (List.getElem?_eq_some_iff.1 hx).1
  have hi' : i < us.length := by rw [h.len]; exact hi
  exact ⟨_, Fs i, List.getElem?_eq_getElem hi', h5 i x _ hx (List.getElem?_eq_getElem hi'), fun c hc => h6 i c hi hc, h.len, hi, h.lt, Fs, fun j y u _ hy hu => h5 j y u hy hu, fun j c hj hji hc => ⟨h6 j c hj hc, h7 j i c hj hi hji hc⟩, fun j k c hj hk _ _ hjk => h7 j k c hj hk hjk⟩
theorem OTh.keep {i : Nat} (h : OTh E B w us ts i F G) (hs : w.heap.size ≤ w'.heap.size) (hw : ∀ c, F c → ¬ G c → w'.heap[c]? = w.heap[c]?) : OTh E B w' us ts i F G := by
  obtain ⟨Fs, h5, h6, h7⟩ := h.fam
  exact ⟨h.len, h.at', fun c hc => ⟨(h.lt c hc).1, Nat.lt_of_lt_of_le (h.lt c hc).2 hs⟩, Fs, fun j y u hj hy hu => (h5 j y u hj hy hu).keep hs fun c hc => have hq := h6 j c (List.getElem?_eq_some_iff.1 hy).1 hj hc; hw c hq.1 hq.2, h6, h7⟩
theorem OTh.ext {i : Nat} (h : OTh E B w us ts i F G) (_hl : Low M w) (_hB : B ≤ w.heap.size) (e : Ext w w') : OTh E B w' us ts i F G := h.keep e.size fun c hc _ => e.block c (h.lt c hc).2
theorem OTh.stp {i : Nat} (h : OTh E B w us ts i F G) (s : Stp B' M M' w w') (hw : ∀ c, F c → ¬ G c → w'.heap[c]? = w.heap[c]?) : OTh E B w' us ts i F G := h.keep s.upd.1 hw
theorem OTh.put {i : Nat} (h : OTh E B w us ts i F G) (hx : OTy E B w x v G') (hG : ∀ c, G' c → G c ∨ ¬ F c) : OTs E B w (us.set i ⟨v⟩) (ts.set i x) (fun c => F c ∨ G' c) := by
  obtain ⟨Fs, h5, h6, h7⟩ := h.fam
  have hi := h.at'
  have hi' : i < us.length := by rw [h.len]; exact hi
  refine ⟨by simp [h.len], fun c hc => hc.elim (h.lt c) (hx.lt c), fun j c => if j = i then G' c else Fs j c, fun j y u hy hu => ?_, fun j c hj hc => ?_, fun j k c hj hk hjk hc hc' => ?_⟩
  · by_cases e : j = i
    · subst e
      simp [hi] at hy
      simp [hi'] at hu
      subst hy; subst hu
      simpa using hx
    · rw [List.getElem?_set_ne (fun e' => e e'.symm)] at hy hu
      simp only [e, if_false]
      exact h5 j y u e hy hu
  · rw [List.length_set] at hj
    by_cases e : j = i
    · simp only [e, if_true] at hc; exact .inr hc
    · simp only [e, if_false] at hc; exact .inl (h6 j c hj e hc).1
  · rw [List.length_set] at hj hk
    have key : ∀ j c, j < ts.length → j ≠ i → Fs j c → ¬ G' c := fun j c hj hji hc hg => (hG c hg).elim (h6 j c hj hji hc).2 (fun hn => hn (h6 j c hj hji hc).1)
    by_cases e : j = i
    · simp only [e, if_true] at hc
      by_cases e' : k = i
      · omega
      · simp only [e', if_false] at hc'; exact key k c hk e' hc' hc
    · simp only [e, if_false] at hc
      by_cases e' : k = i
      · simp only [e', if_true] at hc'; exact key j c hj e hc hc'
      · simp only [e', if_false] at hc'; exact h7 j k c hj hk e e' hjk hc hc'
/-- A new tree, made of new kids. -/
theorem oty_fin {w0 : World} {kv : Value} {op n : Int} {name : ByteArray} {kids : List Ty} (h1 : 0 ≤ op ∧ op ≤ 255) (h2 : name.size < 140737488355328) (h3 : I64 n) (h4 : kids.length < 140737488355328)
    (hr : OwnSl E w0.heap.size M w kv us) (hk : OTs E w0.heap.size w us kids F) (hd : ∀ x y, kv.ownBlock = some x → F y → x ≠ y) : OTy E w0.heap.size w (.mk op name n kids) (.agg #[.int .u8 op, .string name, .int .i64 n, kv]) (Plus NoM w0 w) :=
  oty_mk h1 h2 h3 h4 (fun c hc => hc.elim (fun h => h.elim) id) (hr.keepV (fun b hb => .inr (hr.lt b hb)) fun _ _ _ _ _ => rfl) hk fun c hc => ⟨.inr (hk.lt c hc), fun e => hd c c e hc rfl⟩
theorem own_ones {e k : Nat} {kv : Value} {l : List (VN k)} {op n : Int} {name : ByteArray} (h : OwnSl e B M w kv l) : ∀ u ∈ (Value.agg #[.int .u8 op, .string name, .int .i64 n, kv]).cells.toList, u.oneCell' = true := by
  obtain ⟨a, c, rfl, _⟩ := h.val
  intro u hu
  simp [Value.cells] at hu
  rcases hu with rfl | rfl | rfl | rfl <;> rfl
theorem oty_leaf {op n : Int} {name : ByteArray} {w0 : World} (h1 : 0 ≤ op ∧ op ≤ 255) (h2 : name.size < 140737488355328) (h3 : I64 n) : OTy E w0.heap.size w (.mk op name n []) (.agg #[.int .u8 op, .string name, .int .i64 n, .slice none 0 0]) (Plus NoM w0 w) :=
  oty_fin (M := NoM) (F := NoM) (us := []) h1 h2 h3 (by simp) own_nil (ots_nil (fun _ h => h.elim)) (fun _ _ _ h => h.elim)
theorem oty_leafB {op n : Int} {name : ByteArray} {kv : Value} (h1 : 0 ≤ op ∧ op ≤ 255) (h2 : name.size < 140737488355328) (h3 : I64 n) (hv : kv = .slice none 0 0 := by rfl) : OTy E B w (.mk op name n []) (.agg #[.int .u8 op, .string name, .int .i64 n, kv]) NoM := by
  subst hv
  exact oty_mk (us := []) (H := NoM) h1 h2 h3 (by simp) (fun _ h => h.elim) own_nil (ots_nil (fun _ h => h.elim)) (fun _ h => h.elim)
end
end Rw
