/- Walks: a row made of fields and a tail. Printed by wip/walks/kinds10.py. -/
import Derived.Test.YtohfnpmehgpphaaWh
import Derived.Test.YtohfnpmehgpphaaRange
namespace Go.Proofs.Ytohfnpmehgpphaa
open Go Rw Go.RowKit
set_option maxRecDepth 100000

/-- Backward: the iterator. -/
theorem backward_spec (M : Nat → Prop) (w : World) (v : Value) (l : List Fld) (hs : Sl M w v l) (hlow : Low M w) :
    Calls Try.prog 167 #[v] w (Ret fun r w' => (∃ b, r = .func (.func 168) #[] #[.pointer (some ⟨b, 0, none⟩)] ∧ At M w' b 0 [v]) ∧ Ext w w') := by
  have hE : Below w.heap.size w w := Below.refl _ _
  have hB : w.heap.size ≤ w.heap.size := Nat.le_refl _
  refine c_enter (n := 4) Try.func167 rfl rfl rfl ?_
  refine q0 ?_
  refine l_cons (o_box rfl rfl rfl ?_)
  intro b1 w1 hb_b1 ew1 h1
  replace h1 := h1.at (nM_of hlow hb_b1)
  replace hE := hE.trans (Below.mono ew1 hB)
  replace hs := hs.ext ew1
  replace hlow := hlow.ext ew1
  replace hB := Nat.le_trans hB ew1.size
  replace h1 := h1.sl hs
  refine l_p 1 tbOk rfl (q1 (q0 (l_p 2 tbOk rfl (q1 (c_ret (x_ret1 rfl rfl ?_))))))
  exact ⟨⟨b1, rfl, h1⟩, hE⟩

/-- What it hands to yield. -/
def backL (l : List Fld) (us : Nat → Value) : List (Value × Value) := (List.range l.length).map fun (k : Nat) => (Value.int .i64 ((l.length : Int) - 1 - (k : Int)), us (l.length - 1 - k))
theorem backL_get {l : List Fld} {us : Nat → Value} {k : Nat} (hk : k < l.length) : (backL l us)[k]? = some (Value.int .i64 ((l.length : Int) - 1 - (k : Int)), us (l.length - 1 - k)) := by
  unfold backL
  rw [List.getElem?_map, List.getElem?_range hk]; rfl
theorem backL_of {l : List Fld} {us : Nat → Value} {k : Nat} {x : Value × Value} (h : (backL l us)[k]? = some x) : k < l.length ∧ x = (Value.int .i64 ((l.length : Int) - 1 - (k : Int)), us (l.length - 1 - k)) := by
  have hk : k < l.length := by
    have := (List.getElem?_eq_some_iff.1 h).1
    simpa [backL] using this
  rw [backL_get hk] at h
  exact ⟨hk, (Option.some.inj h).symm⟩
/-- The iterator: fields, from the last to the first. -/
theorem backward_iter (M : Nat → Prop) (w0 : World) (b1 bs off cap m : Nat) (v : Value) (l : List Fld) (us : Nat → Value) (Kp : World → World → Prop) (hL : l.length < 140737488355328)
    (hagg : ∀ i x, l[i]? = some x → us i = .agg (us i).cells.toList.toArray ∧ (us i).cells.toList.length = 5) (hKt : ∀ A B C, Kp A B → Kp B C → Kp A C)
    (hk : ∀ W, Kp w0 W → At M W b1 0 [v] ∧ Sl M W v l ∧ ∀ i x, l[i]? = some x → v = .slice (some ⟨bs, off, none⟩) l.length cap ∧ At M W bs (off + i * 5) (us i).cells.toList) :
    IterOk Try.prog m 168 #[.pointer (some ⟨b1, 0, none⟩)] (backL l us) Kp w0 := by
  intro lp J w hk0 hround h0
  show Calls Try.prog 168 #[.func (.yield lp) #[] #[], .pointer (some ⟨b1, 0, none⟩)] w _
  obtain ⟨h1, hs, _⟩ := hk w hk0
  refine c_enter (n := 19) Try.func168 rfl rfl rfl ?_
  refine q0 ?_
  refine l_cons (o_ld tbOk (h1.cell 0 _ rfl) rfl rfl rfl rfl rfl ?_)
  refine l_cons (o_len tbOk hs rfl rfl rfl rfl rfl ?_)
  refine l_cons (o_ar rfl rfl rfl (IntWalk.i64_in _ (by omega)) rfl rfl ?_)
  refine l_p 1 tbOk rfl (q1 (c_blk ?_))
  refine c_loop (X := Nat) (fun j => [(0, .func (.yield lp) #[] #[]), (1, .pointer (some ⟨b1, 0, none⟩)), (3, .int .i64 ((j : Int) - 1))]) (fun j w' => j ≤ l.length ∧ J (l.length - j) w' ∧ Kp w0 w') (fun j => j) (l.length) (s3 rfl rfl rfl) ?_ ?_
  · exact ⟨Nat.le_refl _, by rw [Nat.sub_self]; exact h0, hk0⟩
  clear h1 hs
  rintro j w1 ⟨hj, hJ, hkp⟩
  refine c_seq (q0 (l_p 2 tbOk rfl (q1 ?_)))
  refine c_ifP _ rfl (fun hc => ?_) (fun hc => ?_)
  · obtain ⟨j0, rfl⟩ : ∃ j0, j = j0 + 1 := ⟨j - 1, by omega⟩
    have hj0 : j0 < l.length := by omega
    obtain ⟨h1, hs, hel⟩ := hk _ hkp
    obtain ⟨rfl, hat⟩ := hel j0 _ (List.getElem?_eq_getElem hj0)
    obtain ⟨hag, hsz⟩ := hagg j0 _ (List.getElem?_eq_getElem hj0)
    have hy := hround (l.length - (j0 + 1)) (Value.int .i64 (((j0 + 1 : Nat) : Int) - 1), us j0) _ hJ (by rw [backL_get (by omega)]; congr 3 <;> omega)
    simp only at hy
    rw [hag] at hy
    refine c_skip (x_seq (c_seq (c_blk (c_seq ?_))))
    refine c_regI (m := m) (l := [0, 1, 2, 3, 4, 5, 6, 7]) rfl ?_
    refine li_cons rfl rfl (fun ⟨_, _, h⟩ => h) (o_p tbOk rfl rfl rfl ?_)
    refine li_cons rfl rfl (fun ⟨_, _, h⟩ => h) (o_p tbOk rfl rfl rfl ?_)
    refine li_cons rfl rfl (fun ⟨_, _, h⟩ => h) (o_ld tbOk (h1.cell 0 _ rfl) rfl rfl rfl rfl rfl ?_)
    refine li_cons rfl rfl (fun ⟨_, _, h⟩ => h) (o_p tbOk rfl rfl rfl ?_)
    refine li_cons rfl rfl (fun ⟨_, _, h⟩ => h) (o_ix tbOk rfl rfl rfl rfl rfl (j := j0) (by omega) hj0 rfl rfl ?_)
    refine li_cons rfl rfl (fun ⟨_, _, h⟩ => h) (o_lds tbOk (cs := (us j0).cells.toList) (fun j v hv => hat.cell j v hv) rfl rfl rfl hsz rfl rfl ?_)
    refine li_yield rfl rfl rfl rfl hy ?_
    rintro _ w2 ⟨rfl, hJ2, hkp2⟩
    refine ⟨true, rfl, ?_⟩
    refine li_cons rfl rfl (fun ⟨_, _, h⟩ => h) (o_p tbOk rfl rfl rfl ?_)
    refine li_nil ?_
    refine x_seq (c_ifF rfl (c_skip (x_blk (x_seq (c_reg (l_p 1 tbOk rfl ?_))))))
    refine l_cons (o_ar rfl rfl rfl (IntWalk.i64_in _ (by omega)) rfl rfl ?_)
    refine l_p 1 tbOk rfl (l_nil ?_)
    exact x_round (j0) (s3 rfl rfl (get_num rfl (by omega))) ⟨by omega, by rw [show l.length - j0 = l.length - (j0 + 1) + 1 by omega]; exact hJ2, hKt _ _ _ hkp hkp2⟩ (by omega)
  obtain rfl : j = 0 := by omega
  refine c_exit (x_seqE (x_seqE (x_blkE ?_)))
  refine x_ret0n rfl ?_
  show J (backL l us).length _
  rw [show (backL l us).length = l.length by simp [backL]]
  exact hJ

/-- Between two rounds: the row so far. -/
theorem otyPutO {E B : Nat} {W : World} {t : Ty} {v : Value} {F : Nat → Prop} {l : Nat} {o o' : Obj} (hl : W.heap[l]? = some o) (hc : o.isCells = false) (h : OTy E B W t v F) : OTy E B (W.putObj l o') t v F :=
  h.keepC (by simp) fun c cs T _ hg => World.putObj_heap_other (fun e => by subst e; rw [hg] at hl; cases hl; simp [Obj.isCells] at hc)
def JI (M : Nat → Prop) (B : Nat) (w wr : World) (b4 b5 : Nat) (t : Ty) (W : World) : Prop := ∃ kv F, MB B M W b5 40 [.int .u8 t.op, .string t.name, .int .i64 t.n, kv] ∧ OTy 40 B W t (.agg #[.int .u8 t.op, .string t.name, .int .i64 t.n, kv]) F ∧ (∀ x, F x → x ≠ b4) ∧ (∀ x, F x → x ≠ b5) ∧ MB B M W b4 40 [.int .u8 0, .string ⟨#[]⟩, .int .i64 0, .slice none 0 0] ∧ Low M W ∧ B ≤ W.heap.size ∧ Below B w W ∧
  (wr.heap.size ≤ W.heap.size ∧ ∀ x, x < wr.heap.size → x ≠ b5 → W.heap[x]? = wr.heap[x]?)
theorem JI.alloc {M : Nat → Prop} {B : Nat} {w wr : World} {b4 b5 : Nat} {t : Ty} {W : World} (o : Obj) (h : JI M B w wr b4 b5 t W) : JI M B w wr b4 b5 t (W.alloc o) := by
  obtain ⟨kv, F, h5, ht, hd4, hd5, h4, hlow, hB, hE, hf⟩ := h
  have e := ext_alloc W o
  exact ⟨kv, F, h5.ext hlow hB e, ht.ext hlow hB e, hd4, hd5, h4.ext hlow hB e, hlow.ext e, Nat.le_trans hB e.size, hE.trans (Below.mono e hB), Nat.le_trans hf.1 e.size, fun x hx hn => (e.block x (Nat.lt_of_lt_of_le hx hf.1)).trans (hf.2 x hx hn)⟩
theorem JI.put {M : Nat → Prop} {B : Nat} {w wr : World} {b4 b5 : Nat} {t : Ty} {W : World} {l : Nat} {o o' : Obj} (h : JI M B w wr b4 b5 t W) (hB0 : B ≤ wr.heap.size) (hw : wr.heap.size ≤ l) (hl : W.heap[l]? = some o) (hc : o.isCells = false) : JI M B w wr b4 b5 t (W.putObj l o') := by
  obtain ⟨kv, F, h5, ht, hd4, hd5, h4, hlow, hB, hE, hf⟩ := h
  exact ⟨kv, F, put_keeps hl hc h5, otyPutO hl hc ht, hd4, hd5, put_keeps hl hc h4, put_low hlow, by simpa using hB, put_below hE (by omega) hB, by simpa using hf.1, fun x hx hn => (World.putObj_heap_other (by omega)).trans (hf.2 x hx hn)⟩
/-- Join: a row of fields and a tail. -/
theorem join_own (l : List Fld) (e : Ty) (M : Nat → Prop) (w : World) (v u : Value) (m : Nat) (hs : Sl M w v l) (he : Rep.R M w u e) (hlow0 : Low M w) (hz : ∀ x ∈ l, psz x.ty ≤ 2000000) (hze : psz e ≤ 2000000) :
    Calls Try.prog 165 #[v, u] w (Ret fun r w' => OTy 40 w.heap.size w' (ofF l e) r (Plus NoM w w') ∧ Ext w w') := by
  have hlow := hlow0
  have hB : w.heap.size ≤ w.heap.size := Nat.le_refl _
  have hE : Below w.heap.size w w := Below.refl _ _
  have hsub : ∀ b, M b → M b := fun _ h => h
  obtain ⟨kve, rfl, ope, nme, n64e, hke⟩ := ty_open he
  have hL := hs.lt
  refine c_enterM (n := 23) (m := m) Try.func165 rfl rfl rfl ?_
  refine q0 ?_
  refine l_cons (o_box rfl rfl rfl ?_)
  intro b3 w1 hb_b3 ew1 h3
  replace h3 : Box _ b3 40 [.int .u8 e.op, .string e.name, .int .i64 e.n, kve] := h3
  replace h3 := h3.at (nM_of hlow hb_b3)
  replace hE := hE.trans (Below.mono ew1 hB)
  replace he := Rep.ext he ew1
  replace hke := hke.ext ew1
  replace hs := hs.ext ew1
  replace hlow := hlow.ext ew1
  replace hB := Nat.le_trans hB ew1.size
  refine l_cons (o_new tbOk rfl rfl rfl ?_)
  intro b4 w2 qb4 ew2 hb4
  have sw2 := Stp.add ew2 hlow hB (Nat.le_of_eq qb4.symm) hb4.lt
  have h4 : MB w.heap.size (Rw.Add M b4) w2 b4 40 [.int .u8 0, .string ⟨#[]⟩, .int .i64 0, .slice none 0 0] := MB.mk' hb4 qb4 hB
  replace hE := hE.trans sw2.below
  replace he := Rep.stp he sw2
  replace hke := hke.stp sw2
  replace hs := hs.stp sw2
  replace h3 := h3.stp sw2
  replace hsub := fun b h => sw2.sub b (hsub b h)
  replace hlow := sw2.low
  replace hB := Nat.le_trans hB sw2.upd.1
  refine q1 (q0 ?_)
  refine l_cons (o_lds tbOk (fun j v hv => h3.cell j v hv) rfl rfl rfl rfl rfl rfl ?_)
  have l_h4 := h4.lt
  have hB0 := hB
  refine l_cons (o_call fo93 rfl rfl rfl (copied_own e _ _ _ he hlow hze) ?_)
  rintro vr w3 ⟨hr, ew3⟩
  replace hr := hr.ge hB0
  have hGl : ∀ c, Plus NoM w2 w3 c → w2.heap.size ≤ c := fun c h => h.elim (fun h => h.elim) (fun h => h.1)
  replace h4 := h4.ext hlow hB ew3
  replace hE := hE.trans (Below.mono ew3 hB)
  replace he := Rep.ext he ew3
  replace hke := hke.ext ew3
  replace hs := hs.ext ew3
  replace h3 := h3.ext ew3
  replace hlow := hlow.ext ew3
  replace hB := Nat.le_trans hB ew3.size
  generalize Plus NoM w2 w3 = F at hr hGl
  have d_hr_h4 : ∀ x, F x → x ≠ b4 := fun x hx => by have := hGl x hx; omega
  obtain ⟨kvr, usr, Hr, rfl, opr, nmr, n64r, hknr, hrr, hOr, hHr⟩ := oty_open hr
  refine l_cons (o_new tbOk rfl rfl rfl ?_)
  intro b5 w4 qb5 ew4 hb5
  have ne_h4_h5 : b4 ≠ b5 := by have := h4.lt; omega
  have d_hr_h5 : ∀ x, F x → x ≠ b5 := fun x hx => by have := (hr.lt x hx).2; omega
  have sw4 := Stp.add ew4 hlow hB (Nat.le_of_eq qb5.symm) hb5.lt
  have h5 : MB w.heap.size (Rw.Add (Rw.Add M b4) b5) w4 b5 40 [.int .u8 0, .string ⟨#[]⟩, .int .i64 0, .slice none 0 0] := MB.mk' hb5 qb5 hB
  replace h4 := h4.stp sw4 (ew4.block b4 h4.lt)
  replace hr := hr.stp sw4 (fun x hx => ew4.block x (hr.lt x hx).2)
  replace hE := hE.trans sw4.below
  replace he := Rep.stp he sw4
  replace hke := hke.stp sw4
  replace hs := hs.stp sw4
  replace h3 := h3.stp sw4
  replace hsub := fun b h => sw4.sub b (hsub b h)
  replace hlow := sw4.low
  replace hB := Nat.le_trans hB sw4.upd.1
  refine l_cons (o_st tbOk h5.box rfl rfl rfl rfl hr.one rfl rfl ?_)
  intro w5 hw5 qw5 bew5
  have uw5 : UpdB _ _ _ := ⟨qw5, bew5⟩
  have sw5 := uw5.stp h5.inM hlow h5.ge
  have frw5 := qw5.2
  replace h4 := h4.stp sw5 (frw5 b4 h4.lt ne_h4_h5)
  replace hr := hr.stp sw5 (fun x hx => frw5 x (hr.lt x hx).2 (d_hr_h5 x hx))
  replace hE := hE.trans sw5.below
  replace he := Rep.stp he sw5
  replace hke := hke.stp sw5
  replace hs := hs.stp sw5
  replace h3 := h3.stp sw5
  replace hsub := fun b h => sw5.sub b (hsub b h)
  replace hlow := sw5.low
  replace hB := Nat.le_trans hB sw5.upd.1
  replace h5 : MB w.heap.size _ w5 b5 _ [.int .u8 e.op, .string e.name, .int .i64 e.n, kvr] := ⟨hw5, h5.inM, h5.ge⟩
  refine q1 (c_seq (q0 (l_p 1 tbOk rfl ?_)))
  refine l_cons (o_call fo167 rfl rfl rfl (backward_spec _ _ v l hs hlow) ?_)
  rintro _ w6 ⟨⟨bb, rfl, hbb⟩, ew6⟩
  replace h4 := h4.ext hlow hB ew6
  replace hr := hr.ext hlow hB ew6
  replace h5 := h5.ext hlow hB ew6
  replace hE := hE.trans (Below.mono ew6 hB)
  replace he := Rep.ext he ew6
  replace hke := hke.ext ew6
  replace hs := hs.ext ew6
  replace h3 := h3.ext ew6
  replace hlow := hlow.ext ew6
  replace hB := Nat.le_trans hB ew6.size
  refine q1 (c_blk ?_)
  obtain ⟨bs, off, cap, us, hus⟩ := sl_choose hs
  have H4 : b4 < w6.heap.size := h4.lt
  have hB0 : w.heap.size ≤ w6.heap.size := hB
  refine c_range (N := 1) (range_wp (m := m) (xs := backL l us) (I := fun k W => JI (Rw.Add (Rw.Add M b4) b5) w.heap.size w w6 b4 b5 (ofF (l.drop (l.length - k)) e) W) (Kp := fun A B => A.heap.size ≤ B.heap.size ∧ ∀ x, x < w6.heap.size → x ≠ b5 → B.heap[x]? = A.heap[x]?)
    rfl fo168 rfl rfl (backward_iter (Rw.Add (Rw.Add M b4) b5) w6 bb bs off cap m v l us _ hL (fun i x hx => ?_) (fun A B C h k => ⟨Nat.le_trans h.1 k.1, fun x hx hn => (k.2 x hx hn).trans (h.2 x hx hn)⟩) (fun W hW => ?_))
    (fun A B C h k => ⟨Nat.le_trans h.1 k.1, fun x hx hn => (k.2 x hx hn).trans (h.2 x hx hn)⟩) (fun W l o' hl => ⟨by simp, fun x hx _ => World.putObj_heap_other (by omega)⟩) (fun W o hs => ⟨by simp, fun x hx _ => (ext_alloc W o).block x (by omega)⟩)
    ?_ (fun W o h => h.alloc o) (fun k W l o o' h hl ho hc => h.put hB0 hl ho hc) ?_ ?_)
  · obtain ⟨_, hR, _⟩ := hus i x hx
    obtain ⟨_, kvx, hux, _⟩ := fld_open hR
    rw [hux]; exact ⟨rfl, rfl⟩
  · have hU : Upd (Rw.Add (Rw.Add M b4) b5) w6 W := ⟨hW.1, fun x hx hn => hW.2 x hx (fun e => hn (e ▸ h5.inM))⟩
    exact ⟨hbb.upd hU, hs.upd hU, fun i x hx => ⟨(hus i x hx).1, (hus i x hx).2.2.upd hU⟩⟩
  · show JI _ _ _ _ _ _ (ofF (l.drop (l.length - 0)) e) _
    rw [Nat.sub_zero, List.drop_length]
    exact ⟨kvr, F, h5, hr, d_hr_h4, d_hr_h5, h4, hlow, hB, hE, Nat.le_refl _, fun _ _ _ => rfl⟩
  · intro k x W lp hI hx a ha
    obtain ⟨hkl, rfl⟩ := backL_of hx
    obtain ⟨kv, F, h5, hr, d_hr_h4, d_hr_h5, h4, hlow, hB, hE, hfr⟩ := hI
    have hi : l.length - 1 - k < l.length := by omega
    have hU : Upd (Rw.Add (Rw.Add M b4) b5) w6 W := ⟨hfr.1, fun x hx hn => hfr.2 x hx (fun e => hn (e ▸ h5.inM))⟩
    have hfl := Rep.upd (hus _ _ (List.getElem?_eq_getElem hi)).2.1 hU
    have hzz := hz _ (List.getElem_mem hi)
    have hT : ofF (l.drop (l.length - (k + 1))) e = .mk 11 l[l.length - 1 - k].name 0 [l[l.length - 1 - k].ty, (ofF (l.drop (l.length - k)) e)] := by
      rw [show l.length - (k + 1) = l.length - 1 - k by omega, List.drop_eq_getElem_cons hi, show l.length - 1 - k + 1 = l.length - k by omega]; rfl
    generalize hx0 : l[l.length - 1 - k] = x0 at hfl hzz hT
    generalize hr0 : (ofF (l.drop (l.length - k)) e) = r0 at hr h5 hT
    generalize hu0 : us (l.length - 1 - k) = u0 at hfl ha
    obtain ⟨szf, kvf, rfl, hyf⟩ := fld_open hfl
    refine ri_reg0 (K := fun a1 w1 => KeepsFrom w6.heap.size W w1 ∧ (W.heap.size ≤ w1.heap.size ∧ ∀ x, x < w6.heap.size → x ≠ b5 → w1.heap[x]? = W.heap[x]?) ∧ _) rfl (fun a1 w1 h => ⟨rfl, h.1, h.2.1, h.2.2⟩) ?_ a ha
    refine l_cons (o_new tbOk rfl rfl rfl ?_)
    intro b7 w7 qb7 ew7 hb7
    have nb7 := nM_of hlow qb7
    refine l_cons (o_st tbOk hb7 rfl rfl rfl rfl (Rep.one hfl) rfl rfl ?_)
    intro w8 h7 uw8 bew8
    have ew8 : Ext W w8 := ew7.trans (bew8 _ (Nat.le_of_eq qb7.symm))
    replace h5 := h5.ext hlow hB ew8
    replace h4 := h4.ext hlow hB ew8
    replace hr := hr.ext hlow hB ew8
    replace hE := hE.trans (Below.mono ew8 hB)
    replace hfl := Rep.ext hfl ew8
    replace hyf := Rep.ext hyf ew8
    replace hlow := hlow.ext ew8
    replace hB := Nat.le_trans hB ew8.size
    replace h7 : Box w8 b7 56 [.string x0.name, .int .u8 x0.ty.op, .string x0.ty.name, .int .i64 x0.ty.n, kvf] := h7
    replace h7 := h7.at nb7
    refine l_nil ?_
    intro a1 ha1
    refine ⟨rfl, ha1.defers, ha1.defers, ext_keeps ew8, ⟨ew8.size, fun x hx hn => ew8.block x (Nat.lt_of_lt_of_le hx hfr.1)⟩, ?_⟩
    intro o o' hlp ho hoc
    have hfr2 : ∀ x, x < w6.heap.size → x ≠ b5 → (w8.putObj lp o').heap[x]? = w6.heap[x]? := fun x hx hn => (World.putObj_heap_other (by omega)).trans ((ew8.block x (Nat.lt_of_lt_of_le hx hfr.1)).trans (hfr.2 x hx hn))
    have hsz2 : w6.heap.size ≤ (w8.putObj lp o').heap.size := by simpa using Nat.le_trans hfr.1 ew8.size
    replace h5 := put_keeps (o' := o') ho hoc h5
    replace h4 := put_keeps (o' := o') ho hoc h4
    replace hr := otyPutO (o' := o') ho hoc hr
    replace hyf : Rep.R _ (w8.putObj lp o') _ x0.ty := TyR.map (fun h => put_at ho hoc h) _ _ hyf
    replace h7 := put_at (o' := o') ho hoc h7
    replace hlow := put_low (l := lp) (o' := o') hlow
    replace hE := put_below (l := lp) (o' := o') hE (by omega) hB
    replace hB : w.heap.size ≤ (w8.putObj lp o').heap.size := by simpa using hB
    generalize hW2 : w8.putObj lp o' = W2 at hfr2 hsz2 h5 h4 hr hyf h7 hlow hE hB
    have hU2 := UpdB.refl b5 W2
    have hb5 := h5.box
    refine wpIn_block (ri_any0 (K := fun a1 w3 => KeepsFrom w6.heap.size W2 w3 ∧ (W2.heap.size ≤ w3.heap.size ∧ ∀ x, x < w6.heap.size → x ≠ b5 → w3.heap[x]? = W2.heap[x]?) ∧ _) Ext rfl rfl (fun a1 w1 h => ⟨rfl, h.1, h.2.1, h.2.2⟩) ?_ a1 ha1)
    intro w9 ew9
    replace hU2 := hU2.trans (UpdB.ext ew9 h5.lt)
    replace h5 := h5.ext hlow hB ew9
    replace h4 := h4.ext hlow hB ew9
    replace hr := hr.ext hlow hB ew9
    replace hE := hE.trans (Below.mono ew9 hB)
    replace hyf := Rep.ext hyf ew9
    replace h7 := h7.ext ew9
    replace hlow := hlow.ext ew9
    replace hB := Nat.le_trans hB ew9.size
    have hS : Ext w9 w9 := ext_refl _
    have D_h5 := h5.box
    have D_h4 := h4.box
    have D_h7 := h7
    refine a_p 0 tbOk rfl rfl rfl rfl (by kernel_rfl) (fun _ _ _ h => h) hS ?_
    refine a_ld 1 tbOk (fun _ hs => (D_h7.ext hs).cell 0 _ rfl) rfl rfl rfl rfl rfl rfl (by kernel_rfl) (fun _ _ _ h => h) hS ?_
    refine a_p 2 tbOk rfl rfl rfl rfl (by kernel_rfl) (fun _ _ _ h => h) hS ?_
    refine a_lds 3 tbOk (fun _ hs j v hv => ((D_h7.ext hs)).drop 1 (sub := [.int .u8 x0.ty.op, .string x0.ty.name, .int .i64 x0.ty.n, kvf]) rfl j v hv) rfl rfl rfl rfl rfl rfl rfl (by kernel_rfl) (fun _ _ _ h => h) hS ?_
    refine a_lds 5 tbOk (fun _ hs j v hv => (D_h5.ext hs).cell j v hv) rfl rfl rfl rfl rfl rfl rfl (by kernel_rfl) (fun _ _ _ h => h) hS ?_
    have l_h4 := h4.lt
    have l_h5 := h5.lt
    have l_hr := hr.lt
    have hB0 := hB
    refine a_one 4 rfl (by kernel_rfl) (o_call fo93 rfl rfl rfl (copied_own x0.ty _ _ _ hyf hlow hzz) ?_)
    rintro vc w10 ⟨hc, ew10⟩
    replace hc := hc.ge hB0
    have hGl : ∀ c, Plus NoM w9 w10 c → w9.heap.size ≤ c := fun c h => h.elim (fun h => h.elim) (fun h => h.1)
    replace hS := hS.then ew10
    replace hU2 := hU2.trans (UpdB.ext ew10 h5.lt)
    replace h5 := h5.ext hlow hB ew10
    replace h4 := h4.ext hlow hB ew10
    replace hr := hr.ext hlow hB ew10
    replace hE := hE.trans (Below.mono ew10 hB)
    replace hyf := Rep.ext hyf ew10
    replace h7 := h7.ext ew10
    replace hlow := hlow.ext ew10
    replace hB := Nat.le_trans hB ew10.size
    refine ⟨hS, ?_⟩
    generalize Plus NoM w9 w10 = G at hc hGl
    have d_hc_h4 : ∀ x, G x → x ≠ b4 := fun x hx => by have := hGl x hx; omega
    have d_hc_h5 : ∀ x, G x → x ≠ b5 := fun x hx => by have := hGl x hx; omega
    have dcr : ∀ c, F c → ¬ (NoM c ∨ G c) := fun c hf hg => hg.elim id fun hg => by have := hGl c hg; have := (l_hr c hf).2; omega
    have l_h4 := h4.lt
    have l_h5 := h5.lt
    have l_hr := hr.lt
    have l_hc := hc.lt
    have hB0 := hB
    refine a_one 6 rfl (by kernel_rfl) (o_bs tbOk rfl rfl rfl rfl rfl rfl rfl (sz2 hc.size rfl) rfl rfl rfl ?_)
    intro bw11 w11 qbw11 ew11 hbw11
    have nbw11 := nM_of hlow qbw11
    replace hS := hS.then ew11
    replace hU2 := hU2.trans (UpdB.ext ew11 h5.lt)
    replace h5 := h5.ext hlow hB ew11
    replace h4 := h4.ext hlow hB ew11
    replace hr := hr.ext hlow hB ew11
    replace hc := hc.ext hlow hB ew11
    replace hE := hE.trans (Below.mono ew11 hB)
    replace hyf := Rep.ext hyf ew11
    replace h7 := h7.ext ew11
    replace hlow := hlow.ext ew11
    replace hB := Nat.le_trans hB ew11.size
    refine ⟨hS, ?_⟩
    have hrs : Rs (α := VN 3) (fun c => c = bw11) w11 [vc, .agg #[.int .u8 r0.op, .string r0.name, .int .i64 r0.n, kv]] [⟨vc⟩, ⟨.agg #[.int .u8 r0.op, .string r0.name, .int .i64 r0.n, kv]⟩] := ⟨hc.vn, hr.vn, trivial⟩
    have hown : OwnSl 40 w.heap.size (fun c => c = bw11) w11 (.slice (some ⟨bw11, 0, none⟩) 2 2) ([⟨vc⟩, ⟨.agg #[.int .u8 r0.op, .string r0.name, .int .i64 r0.n, kv]⟩] : List (VN 3)) := own_lit hbw11 hrs rfl (by omega) (by simp [maxLen])
    have hts := ((ots_nil (E := 40) (B := w.heap.size) (w := w11) (F := NoM) (fun _ h => h.elim)).app hc (fun _ _ h => h)).app hr dcr
    have hbl := hbw11.lt
    refine a_build (cells := [.int .u8 11, .string x0.name, .int .i64 0, .slice (some ⟨bw11, 0, none⟩) 2 2]) 7 bd40 rfl rfl rfl rfl rfl rfl (by kernel_rfl) (fun _ _ _ h => h) hS ?_
    have hnew : OTy 40 w.heap.size w11 (Ty.mk 11 x0.name 0 [x0.ty, r0]) (.agg #[.int .u8 11, .string x0.name, .int .i64 0, .slice (some ⟨bw11, 0, none⟩) 2 2]) (fun c => c = bw11 ∨ ((NoM c ∨ G c) ∨ F c)) := oty_mk (by decide) szf ⟨by decide, by decide⟩ (by simp) (fun c hc2 => hc2.elim (fun h => by subst h; omega) (fun h => h.elim (fun h => h.elim (fun h => h.elim) (hc.lt c)) (hr.lt c))) (hown.keepV (fun x hx => .inl (hown.inM x hx)) (fun _ _ _ _ _ => rfl)) hts (fun c hc2 => ⟨.inr hc2, fun e => by simp [Value.ownBlock] at e; subst e; exact hc2.elim (fun h => h.elim id (fun h => by have := (l_hc _ h).2; omega)) (fun h => by have := (l_hr _ h).2; omega)⟩)
    have d_hnew_h4 : ∀ x, (fun c => c = bw11 ∨ ((NoM c ∨ G c) ∨ F c)) x → x ≠ b4 := fun x hx => hx.elim (fun h => by omega) (fun h => h.elim (fun h => h.elim (fun h => h.elim) (d_hc_h4 x)) (d_hr_h4 x))
    have d_hnew_h5 : ∀ x, (fun c => c = bw11 ∨ ((NoM c ∨ G c) ∨ F c)) x → x ≠ b5 := fun x hx => hx.elim (fun h => by omega) (fun h => h.elim (fun h => h.elim (fun h => h.elim) (d_hc_h5 x)) (d_hr_h5 x))
    refine a_barS Ext 8 rfl (by kernel_rfl) (by kernel_rfl) (o_st tbOk h5.box rfl rfl rfl rfl (by intro u hu; simp [Value.cells] at hu; rcases hu with rfl | rfl | rfl | rfl <;> rfl) rfl rfl ?_)
    intro w12 hw12 qw12 bew12
    have uw12 : UpdB _ _ _ := ⟨qw12, bew12⟩
    have sw12 := uw12.stp h5.inM hlow h5.ge
    have frw12 := qw12.2
    replace hU2 := hU2.trans uw12
    replace h4 := h4.stp sw12 (frw12 b4 h4.lt ne_h4_h5)
    replace hnew := hnew.stp sw12 (fun x hx => frw12 x (hnew.lt x hx).2 (d_hnew_h5 x hx))
    replace hE := hE.trans sw12.below
    replace hyf := Rep.stp hyf sw12
    replace h7 := h7.stp sw12
    replace hlow := sw12.low
    replace hB := Nat.le_trans hB sw12.upd.1
    replace hS : Ext w12 w12 := ext_refl _
    replace h5 : MB w.heap.size _ w12 b5 _ [.int .u8 11, .string x0.name, .int .i64 0, .slice (some ⟨bw11, 0, none⟩) 2 2] := ⟨hw12, h5.inM, h5.ge⟩
    have D_h5 := h5.box
    have D_h4 := h4.box
    have D_h7 := h7
    refine a_end (by kernel_rfl) ?_
    intro a3 ha3
    refine ⟨rfl, ha3.defers, ha3.defers, updb_keeps hU2 hb5, ⟨hU2.upd.1, fun x hx hn => hU2.upd.2 x (Nat.lt_of_lt_of_le hx hsz2) hn⟩, ?_⟩
    show JI _ _ _ _ _ _ (ofF (l.drop (l.length - (k + 1))) e) _
    rw [hT]
    exact ⟨_, _, h5, hnew, d_hnew_h4, d_hnew_h5, h4, hlow, hB, hE, Nat.le_trans hsz2 hU2.upd.1, fun x hx hn => (hU2.upd.2 x (Nat.lt_of_lt_of_le hx hsz2) hn).trans (hfr2 x hx hn)⟩
  · intro a D W ha hD hI hDd
    rw [show (backL l us).length = l.length by simp [backL]] at hI
    replace hI : JI _ _ _ _ _ _ (ofF (l.drop (l.length - l.length)) e) _ := hI
    rw [Nat.sub_self, List.drop_zero] at hI
    obtain ⟨kv, F, h5, hr, d_hr_h4, d_hr_h5, h4, hlow, hB, hE, hfr⟩ := hI
    refine (wpIn_wide (n := m)).1 (wpIn_seq (F := Fr none) ?_)
    refine ri_reg (r := none) (K := fun a1 w1 => bodyPostM (Fr none) m Try.prog Try.f165 (Ret fun r w' => OTy 40 w.heap.size w' (ofF l e) r (Plus NoM w w') ∧ Ext w w') .ret (wd [{ target := .collected D, args := #[] }] a1) w1) rfl (fun a1 w1 h => ?_) ?_ a ha
    · exact wpIn_ret (F := Fr none) h
    generalize hr0 : ofF l e = r0 at hr h5
    refine l_cons (o_lds tbOk (fun j v hv => h5.cell j v hv) rfl rfl rfl rfl rfl rfl ?_)
    refine l_cons (o_st tbOk h4.box rfl rfl rfl rfl hr.one rfl rfl ?_)
    intro w13 hw13 qw13 bew13
    have uw13 : UpdB _ _ _ := ⟨qw13, bew13⟩
    have sw13 := uw13.stp h4.inM hlow h4.ge
    have frw13 := qw13.2
    replace h5 := h5.stp sw13 (frw13 b5 h5.lt ne_h4_h5.symm)
    replace hr := hr.stp sw13 (fun x hx => frw13 x (hr.lt x hx).2 (d_hr_h4 x hx))
    replace hE := hE.trans sw13.below
    replace hlow := sw13.low
    replace hB := Nat.le_trans hB sw13.upd.1
    replace h4 : MB w.heap.size _ w13 b4 _ [.int .u8 r0.op, .string r0.name, .int .i64 r0.n, kv] := ⟨hw13, h4.inM, h4.ge⟩
    refine l_nil ?_
    intro a1 ha1
    have hDd2 : w13.heap[D]? = some (.deferred (some [])) := (qw13.2 D (Array.getElem?_eq_some_iff.1 hDd).1 (fun e => by have := h4.ge; have hb := h4.box.heap; have hx := h4.lt; have : b4 < w6.heap.size := H4; omega)).trans hDd
    refine ⟨rfl, ha1.defers, m_ret hDd2 ?_⟩
    refine x_ret1s tbOk (fun j v hv => (put_box hDd2 rfl h4.box).cell j v hv) rfl rfl rfl rfl rfl ?_ a1 ha1
    refine ⟨?_, put_below hE (by omega) hB⟩
    
    have hfin := otyPutO (o' := .deferred none) hDd2 rfl hr
    exact hfin.mono (fun c hc => .inr (hfin.lt c hc)) (fun c hc => hc.elim (fun h => h.elim) id)

theorem join_spec (l : List Fld) (e : Ty) (M : Nat → Prop) (w : World) (v u : Value) (m : Nat) (hs : Sl M w v l) (he : Rep.R M w u e) (hlow : Low M w) (hz : ∀ x ∈ l, psz x.ty ≤ 2000000) (hze : psz e ≤ 2000000) : Calls Try.prog 165 #[v, u] w (Ret fun r w' => Rep.R M w' r (ofF l e) ∧ Ext w w') :=
  (join_own l e M w v u m hs he hlow hz hze).mono (Ret.mono fun r w' h => ⟨h.1.repNew hlow, h.2⟩)

end Go.Proofs.Ytohfnpmehgpphaa
