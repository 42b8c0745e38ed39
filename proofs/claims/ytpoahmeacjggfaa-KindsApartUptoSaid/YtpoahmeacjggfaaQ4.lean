/- Part 4 of the proof: rules, plain laws and walks, merged out of smaller texts. -/
import Derived.Test.YtpoahmeacjggfaaQ3
namespace Go.Proofs.Ytpoahmeacjggfaa
open Go Rw Go.RowKit
set_option maxRecDepth 100000
theorem backward_spec (M : Nat → Prop) (w : World) (v : Value) (l : List Fld) (hs : Sl M w v l) (Lw : Low M w) :
  Calls Try.prog 68 #[v] w (Ret fun r w' => (∃ b, r = .func (.func 97) #[] #[.pointer (some ⟨b, 0, none⟩)] ∧ At M w' b 0 [v]) ∧ Ext w w') := by
 have hE := Below.refl w.heap.size w
 have hB := lR w.heap.size
 refine cN (n := 4) Try.func68 rfl rfl rfl ?_
 refine q0 ?_
 refine lC (o_box rfl rfl rfl ?_)
 intro b1 w1 hb_b1 ew1 h1
 replace h1 := h1.at (nO Lw hb_b1)
 replace hE := ew1.bl hE hB
 replace hs := hs.Y ew1
 replace Lw := Lw.Y ew1
 replace hB := ew1.z hB
 replace h1 := h1.sl hs
 refine lP 1 tK rfl (q1 (q0 (lP 2 tK rfl (q1 (cR (x1_ rfl rfl ?_))))))
 exact ⟨⟨b1, rfl, h1⟩, hE⟩
/-- What it hands to yield. -/
def backL (l : List Fld) (us : Nat → Value) : List (Value × Value) := (List.range l.length).map fun (k : Nat) => (Value.int .i64 ((l.length : Int) - 1 - (k : Int)), us (l.length - 1 - k))
theorem backL_get {l : List Fld} {us : Nat → Value} {k : Nat} (hk : k < l.length) : (backL l us)[k]? = some (Value.int .i64 ((l.length : Int) - 1 - (k : Int)), us (l.length - 1 - k)) := by
 unfold backL
 rw [List.getElem?_map, List.getElem?_range hk]; rfl
theorem backL_of {l : List Fld} {us : Nat → Value} {k : Nat} {x : Value × Value} (h : (backL l us)[k]? = some x) : k < l.length ∧ x = (Value.int .i64 ((l.length : Int) - 1 - (k : Int)), us (l.length - 1 - k)) := by
 have hk : k < l.length := by
  have := (List.getElem?_eq_some_iff.1 h).1
  simpa [backL] using this
 rw [backL_get hk] at h
 exact ⟨hk, (Option.some.inj h).symm⟩
theorem backward_iter (M : Nat → Prop) (w0 : World) (b1 bs off cap m : Nat) (v : Value) (l : List Fld) (us : Nat → Value) (Kp : World → World → Prop) (hL : l.length < 140737488355328)
  (hagg : ∀ i x, l[i]? = some x → us i = .agg (us i).cells.toList.toArray ∧ (us i).cells.toList.length = 5) (hKt : ∀ A B C, Kp A B → Kp B C → Kp A C)
  (hk : ∀ W, Kp w0 W → At M W b1 0 [v] ∧ Sl M W v l ∧ ∀ i x, l[i]? = some x → v = .slice (some ⟨bs, off, none⟩) l.length cap ∧ At M W bs (off + i * 5) (us i).cells.toList) :
  IterOk Try.prog m 97 #[.pointer (some ⟨b1, 0, none⟩)] (backL l us) Kp w0 := by
 intro lp J w hk0 hround h0
 show Calls Try.prog 97 #[.func (.yield lp) #[] #[], .pointer (some ⟨b1, 0, none⟩)] w _
 obtain ⟨h1, hs, _⟩ := hk w hk0
 refine cN (n := 19) Try.func97 rfl rfl rfl ?_
 refine q0 ?_
 refine lC (oD tK (h1.cell 0 _ rfl) rfl rfl rfl rfl rfl ?_)
 refine lC (o_len tK hs rfl rfl rfl rfl rfl ?_)
 refine lC (o_ai rfl rfl rfl (by omega) rfl rfl ?_)
 refine lP 1 tK rfl (q1 (cB ?_))
 refine c_loop (X := Nat) (fun j => [(0, .func (.yield lp) #[] #[]), (1, .pointer (some ⟨b1, 0, none⟩)), (3, .int .i64 ((j : Int) - 1))]) (fun j w' => j ≤ l.length ∧ J (l.length - j) w' ∧ Kp w0 w') (fun j => j) (l.length) (s3 rfl rfl rfl) ?_ ?_
 ·exact ⟨lR _, by rw [Nat.sub_self]; exact h0, hk0⟩
 clear h1 hs
 rintro j w1 ⟨hj, hJ, hkp⟩
 refine cS (q0 (lP 2 tK rfl (q1 ?_)))
 refine cP _ rfl (fun hc => ?_) (fun hc => ?_)
 ·obtain ⟨j0, rfl⟩ : ∃ j0, j = j0 + 1 := ⟨j - 1, by omega⟩
  have hj0 : j0 < l.length := by omega
  obtain ⟨h1, hs, hel⟩ := hk _ hkp
  obtain ⟨rfl, hat⟩ := hel j0 _ (gE hj0)
  obtain ⟨hag, hsz⟩ := hagg j0 _ (gE hj0)
  have hy := hround (l.length - (j0 + 1)) (Value.int .i64 (((j0 + 1 : Nat) : Int) - 1), us j0) _ hJ (by rw [backL_get (by omega)]; congr 3 <;> omega)
  simp only at hy
  rw [hag] at hy
  refine cK (xS (cS (cB (cS ?_))))
  refine c_regI (m := m) (l := [0, 1, 2, 3, 4, 5, 6, 7]) rfl ?_
  refine li_cons rfl rfl (fun ⟨_, _, h⟩ => h) (o_p tK rfl rfl rfl ?_)
  refine li_cons rfl rfl (fun ⟨_, _, h⟩ => h) (o_p tK rfl rfl rfl ?_)
  refine li_cons rfl rfl (fun ⟨_, _, h⟩ => h) (oD tK (h1.cell 0 _ rfl) rfl rfl rfl rfl rfl ?_)
  refine li_cons rfl rfl (fun ⟨_, _, h⟩ => h) (o_p tK rfl rfl rfl ?_)
  refine li_cons rfl rfl (fun ⟨_, _, h⟩ => h) (o_ix tK rfl rfl rfl rfl rfl (j := j0) (by omega) hj0 rfl rfl ?_)
  refine li_cons rfl rfl (fun ⟨_, _, h⟩ => h) (oL tK (cs := (us j0).cells.toList) (fun j v hv => hat.cell j v hv) rfl rfl rfl hsz rfl rfl ?_)
  refine li_yield rfl rfl rfl rfl hy ?_
  rintro _ w2 ⟨rfl, hJ2, hkp2⟩
  refine ⟨true, rfl, ?_⟩
  refine li_cons rfl rfl (fun ⟨_, _, h⟩ => h) (o_p tK rfl rfl rfl ?_)
  refine li_nil ?_
  refine xS (c_ifF rfl (cK (x_blk (xS (cG (lP 1 tK rfl ?_))))))
  refine lC (o_ai rfl rfl rfl (by omega) rfl rfl ?_)
  refine lP 1 tK rfl (lN ?_)
  exact x_round (j0) (s3 rfl rfl (gN rfl (by omega))) ⟨by omega, by rw [show l.length - j0 = l.length - (j0 + 1) + 1 by omega]; exact hJ2, hKt _ _ _ hkp hkp2⟩ (by omega)
 obtain rfl : j = 0 := by omega
 refine c_exit (xE (xE (x_blkE ?_)))
 refine x_ret0n rfl ?_
 show J (backL l us).length _
 rw [show (backL l us).length = l.length by simp [backL]]
 exact hJ
theorem otyPutO {E B : Nat} {W : World} {t : Ty} {v : Value} {F : Nat → Prop} {l : Nat} {o o' : Obj} (hl : W.heap[l]? = some o) (hc : o.isCells = false) (h : OTy E B W t v F) : OTy E B (W.putObj l o') t v F :=
 h.keepC (by simp) fun c cs T _ hg => World.putObj_heap_other (fun e => by subst e; rw [hg] at hl; cases hl; simp [Obj.isCells] at hc)
def JI (M : Nat → Prop) (B : Nat) (w wr : World) (b4 b5 : Nat) (t : Ty) (W : World) : Prop := ∃ kv F, MB B M W b5 25 [.int .u8 t.op, .string t.name, .int .i64 t.n, kv] ∧ OTy 25 B W t (.agg #[.int .u8 t.op, .string t.name, .int .i64 t.n, kv]) F ∧ (∀ x, F x → x ≠ b4) ∧ (∀ x, F x → x ≠ b5) ∧ MB B M W b4 25 [.int .u8 0, .string ⟨#[]⟩, .int .i64 0, .slice none 0 0] ∧ Low M W ∧ B ≤ W.heap.size ∧ Below B w W ∧
 (wr.heap.size ≤ W.heap.size ∧ ∀ x, x < wr.heap.size → x ≠ b5 → W.heap[x]? = wr.heap[x]?)
theorem JI.alloc {M : Nat → Prop} {B : Nat} {w wr : World} {b4 b5 : Nat} {t : Ty} {W : World} (o : Obj) (h : JI M B w wr b4 b5 t W) : JI M B w wr b4 b5 t (W.alloc o) := by
 obtain ⟨kv, F, h5, ht, hd4, hd5, h4, Lw, hB, hE, hf⟩ := h
 have e := ext_alloc W o
 exact ⟨kv, F, h5.Y Lw hB e, ht.Y Lw hB e, hd4, hd5, h4.Y Lw hB e, Lw.Y e, Nat.le_trans hB e.size, hE.trans (Below.mono e hB), Nat.le_trans hf.1 e.size, fun x hx hn => (e.block x (lT hx hf.1)).trans (hf.2 x hx hn)⟩
theorem JI.put {M : Nat → Prop} {B : Nat} {w wr : World} {b4 b5 : Nat} {t : Ty} {W : World} {l : Nat} {o o' : Obj} (h : JI M B w wr b4 b5 t W) (hB0 : B ≤ wr.heap.size) (hw : wr.heap.size ≤ l) (hl : W.heap[l]? = some o) (hc : o.isCells = false) : JI M B w wr b4 b5 t (W.putObj l o') := by
 obtain ⟨kv, F, h5, ht, hd4, hd5, h4, Lw, hB, hE, hf⟩ := h
 exact ⟨kv, F, put_keeps hl hc h5, otyPutO hl hc ht, hd4, hd5, put_keeps hl hc h4, put_low Lw, by simpa using hB, put_below hE (by omega) hB, by simpa using hf.1, fun x hx hn => (World.putObj_heap_other (by omega)).trans (hf.2 x hx hn)⟩
theorem join_own (l : List Fld) (e : Ty) (M : Nat → Prop) (w : World) (v u : Value) (m : Nat) (hs : Sl M w v l) (he : Rep.R M w u e) (hlow0 : Low M w) (hz : ∀ x ∈ l, psz x.ty ≤ 2000000) (hze : psz e ≤ 2000000) :
  Calls Try.prog 23 #[v, u] w (Ret fun r w' => OTy 25 w.heap.size w' (ofF l e) r (Plus NoM w w') ∧ Ext w w') := by
 have Lw := hlow0
 have hB := lR w.heap.size
 have hE := Below.refl w.heap.size w
 have hsub : ∀ b, M b → M b := fun _ h => h
 obtain ⟨kve, rfl, ope, nme, n64e, hke⟩ := tO he
 have hL := hs.lt
 refine c_enterM (n := 23) (m := m) Try.func23 rfl rfl rfl ?_
 refine q0 ?_
 refine lC (o_box rfl rfl rfl ?_)
 intro b3 w1 hb_b3 ew1 h3
 replace h3 : Box _ b3 25 [.int .u8 e.op, .string e.name, .int .i64 e.n, kve] := h3
 replace h3 := h3.at (nO Lw hb_b3)
 replace hE := ew1.bl hE hB
 replace he := Rep.Y he ew1
 replace hke := hke.Y ew1
 replace hs := hs.Y ew1
 replace Lw := Lw.Y ew1
 replace hB := ew1.z hB
 refine lC (o_new tK rfl rfl rfl ?_)
 intro b4 w2 qb4 ew2 hb4
 have sw2 := Stp.add ew2 Lw hB (lQ qb4.symm) hb4.lt
 have h4 : MB w.heap.size (Rw.Add M b4) w2 b4 25 [.int .u8 0, .string ⟨#[]⟩, .int .i64 0, .slice none 0 0] := MB.mk' hb4 qb4 hB
 replace hE := hE.trans sw2.below
 replace he := Rep.sp he sw2
 replace hke := hke.sp sw2
 replace hs := hs.sp sw2
 replace h3 := h3.sp sw2
 replace hsub := sw2.sb hsub
 replace Lw := sw2.low
 replace hB := sw2.z hB
 refine q1 (q0 ?_)
 refine lC (oL tK (fun j v hv => h3.cell j v hv) rfl rfl rfl rfl rfl rfl ?_)
 have l_h4 := h4.lt
 have hB0 := hB
 refine lC (oK fo67 rfl rfl rfl (copied_own e _ _ _ he Lw hze) ?_)
 rintro vr w3 ⟨hr, ew3⟩
 replace hr := hr.ge hB0
 have hGl : ∀ c, Plus NoM w2 w3 c → w2.heap.size ≤ c := fun c h => h.elim (fun h => h.elim) (fun h => h.1)
 replace h4 := h4.Y Lw hB ew3
 replace hE := ew3.bl hE hB
 replace he := Rep.Y he ew3
 replace hke := hke.Y ew3
 replace hs := hs.Y ew3
 replace h3 := h3.Y ew3
 replace Lw := Lw.Y ew3
 replace hB := ew3.z hB
 generalize Plus NoM w2 w3 = F at hr hGl
 have d_hr_h4 : ∀ x, F x → x ≠ b4 := fun x hx => by have := hGl x hx; omega
 obtain ⟨kvr, usr, Hr, rfl, opr, nmr, n64r, hknr, hrr, hOr, hHr⟩ := oty_open hr
 refine lC (o_new tK rfl rfl rfl ?_)
 intro b5 w4 qb5 ew4 hb5
 have ne_h4_h5 : b4 ≠ b5 := by have := h4.lt; omega
 have d_hr_h5 : ∀ x, F x → x ≠ b5 := fun x hx => by have := (hr.lt x hx).2; omega
 have sw4 := Stp.add ew4 Lw hB (lQ qb5.symm) hb5.lt
 have h5 : MB w.heap.size (Rw.Add (Rw.Add M b4) b5) w4 b5 25 [.int .u8 0, .string ⟨#[]⟩, .int .i64 0, .slice none 0 0] := MB.mk' hb5 qb5 hB
 replace h4 := h4.sp sw4 (ew4.block b4 h4.lt)
 replace hr := hr.sp sw4 (fun x hx => ew4.block x (hr.lt x hx).2)
 replace hE := hE.trans sw4.below
 replace he := Rep.sp he sw4
 replace hke := hke.sp sw4
 replace hs := hs.sp sw4
 replace h3 := h3.sp sw4
 replace hsub := sw4.sb hsub
 replace Lw := sw4.low
 replace hB := sw4.z hB
 refine lC (o_st tK h5.box rfl rfl rfl rfl hr.one rfl rfl ?_)
 intro w5 hw5 qw5 bew5
 have uw5 : UpdB _ _ _ := ⟨qw5, bew5⟩
 have sw5 := uw5.sp h5.inM Lw h5.ge
 have frw5 := qw5.2
 replace h4 := h4.sp sw5 (frw5 b4 h4.lt ne_h4_h5)
 replace hr := hr.sp sw5 (fun x hx => frw5 x (hr.lt x hx).2 (d_hr_h5 x hx))
 replace hE := hE.trans sw5.below
 replace he := Rep.sp he sw5
 replace hke := hke.sp sw5
 replace hs := hs.sp sw5
 replace h3 := h3.sp sw5
 replace hsub := sw5.sb hsub
 replace Lw := sw5.low
 replace hB := sw5.z hB
 replace h5 : MB w.heap.size _ w5 b5 _ [.int .u8 e.op, .string e.name, .int .i64 e.n, kvr] := ⟨hw5, h5.inM, h5.ge⟩
 refine q1 (cS (q0 (lP 1 tK rfl ?_)))
 refine lC (oK fo68 rfl rfl rfl (backward_spec _ _ v l hs Lw) ?_)
 rintro _ w6 ⟨⟨bb, rfl, hbb⟩, ew6⟩
 replace h4 := h4.Y Lw hB ew6
 replace hr := hr.Y Lw hB ew6
 replace h5 := h5.Y Lw hB ew6
 replace hE := ew6.bl hE hB
 replace he := Rep.Y he ew6
 replace hke := hke.Y ew6
 replace hs := hs.Y ew6
 replace h3 := h3.Y ew6
 replace Lw := Lw.Y ew6
 replace hB := ew6.z hB
 refine q1 (cB ?_)
 obtain ⟨bs, off, cap, us, hus⟩ := sl_choose hs
 have H4 : b4 < w6.heap.size := h4.lt
 have hB0 : w.heap.size ≤ w6.heap.size := hB
 refine c_range (N := 1) (range_wp (m := m) (xs := backL l us) (I := fun k W => JI (Rw.Add (Rw.Add M b4) b5) w.heap.size w w6 b4 b5 (ofF (l.drop (l.length - k)) e) W) (Kp := fun A B => A.heap.size ≤ B.heap.size ∧ ∀ x, x < w6.heap.size → x ≠ b5 → B.heap[x]? = A.heap[x]?)
  rfl fo97 rfl rfl (backward_iter (Rw.Add (Rw.Add M b4) b5) w6 bb bs off cap m v l us _ hL (fun i x hx => ?_) (fun A B C h k => ⟨Nat.le_trans h.1 k.1, fun x hx hn => (k.2 x hx hn).trans (h.2 x hx hn)⟩) (fun W hW => ?_))
  (fun A B C h k => ⟨Nat.le_trans h.1 k.1, fun x hx hn => (k.2 x hx hn).trans (h.2 x hx hn)⟩) (fun W l o' hl => ⟨by simp, fun x hx _ => World.putObj_heap_other (by omega)⟩) (fun W o hs => ⟨by simp, fun x hx _ => (ext_alloc W o).block x (by omega)⟩)
  ?_ (fun W o h => h.alloc o) (fun k W l o o' h hl ho hc => h.put hB0 hl ho hc) ?_ ?_)
 ·obtain ⟨_, hR, _⟩ := hus i x hx
  obtain ⟨_, kvx, hux, _⟩ := fld_open hR
  rw [hux]; exact ⟨rfl, rfl⟩
 ·have hU : Upd (Rw.Add (Rw.Add M b4) b5) w6 W := ⟨hW.1, fun x hx hn => hW.2 x hx (fun e => hn (e ▸ h5.inM))⟩
  exact ⟨hbb.upd hU, hs.upd hU, fun i x hx => ⟨(hus i x hx).1, (hus i x hx).2.2.upd hU⟩⟩
 ·show JI _ _ _ _ _ _ (ofF (l.drop (l.length - 0)) e) _
  rw [Nat.sub_zero, List.drop_length]
  exact ⟨kvr, F, h5, hr, d_hr_h4, d_hr_h5, h4, Lw, hB, hE, lR _, fun _ _ _ => rfl⟩
 ·intro k x W lp hI hx a ha
  obtain ⟨hkl, rfl⟩ := backL_of hx
  obtain ⟨kv, F, h5, hr, d_hr_h4, d_hr_h5, h4, Lw, hB, hE, hfr⟩ := hI
  have hi : l.length - 1 - k < l.length := by omega
  have hU : Upd (Rw.Add (Rw.Add M b4) b5) w6 W := ⟨hfr.1, fun x hx hn => hfr.2 x hx (fun e => hn (e ▸ h5.inM))⟩
  have hfl := Rep.upd (hus _ _ (gE hi)).2.1 hU
  have hzz := hz _ (gM hi)
  have hT : ofF (l.drop (l.length - (k + 1))) e = .mk 11 l[l.length - 1 - k].name 0 [l[l.length - 1 - k].ty, (ofF (l.drop (l.length - k)) e)] := by
   rw [show l.length - (k + 1) = l.length - 1 - k by omega, List.drop_eq_getElem_cons hi, show l.length - 1 - k + 1 = l.length - k by omega]; rfl
  generalize hx0 : l[l.length - 1 - k] = x0 at hfl hzz hT
  generalize hr0 : (ofF (l.drop (l.length - k)) e) = r0 at hr h5 hT
  generalize hu0 : us (l.length - 1 - k) = u0 at hfl ha
  obtain ⟨szf, kvf, rfl, hyf⟩ := fld_open hfl
  refine ri_reg0 (K := fun a1 w1 => KeepsFrom w6.heap.size W w1 ∧ (W.heap.size ≤ w1.heap.size ∧ ∀ x, x < w6.heap.size → x ≠ b5 → w1.heap[x]? = W.heap[x]?) ∧ _) rfl (fun a1 w1 h => ⟨rfl, h.1, h.2.1, h.2.2⟩) ?_ a ha
  refine lC (o_new tK rfl rfl rfl ?_)
  intro b7 w7 qb7 ew7 hb7
  have nb7 := nO Lw qb7
  refine lC (o_st tK hb7 rfl rfl rfl rfl (Rep.one hfl) rfl rfl ?_)
  intro w8 h7 uw8 bew8
  have ew8 : Ext W w8 := ew7.trans (bew8 _ (lQ qb7.symm))
  replace h5 := h5.Y Lw hB ew8
  replace h4 := h4.Y Lw hB ew8
  replace hr := hr.Y Lw hB ew8
  replace hE := ew8.bl hE hB
  replace hfl := Rep.Y hfl ew8
  replace hyf := Rep.Y hyf ew8
  replace Lw := Lw.Y ew8
  replace hB := ew8.z hB
  replace h7 : Box w8 b7 32 [.string x0.name, .int .u8 x0.ty.op, .string x0.ty.name, .int .i64 x0.ty.n, kvf] := h7
  replace h7 := h7.at nb7
  refine lN ?_
  intro a1 ha1
  refine ⟨rfl, ha1.defers, ha1.defers, ext_keeps ew8, ⟨ew8.size, fun x hx hn => ew8.block x (lT hx hfr.1)⟩, ?_⟩
  intro o o' hlp ho hoc
  have hfr2 : ∀ x, x < w6.heap.size → x ≠ b5 → (w8.putObj lp o').heap[x]? = w6.heap[x]? := fun x hx hn => (World.putObj_heap_other (by omega)).trans ((ew8.block x (lT hx hfr.1)).trans (hfr.2 x hx hn))
  have hsz2 : w6.heap.size ≤ (w8.putObj lp o').heap.size := by simpa using Nat.le_trans hfr.1 ew8.size
  replace h5 := put_keeps (o' := o') ho hoc h5
  replace h4 := put_keeps (o' := o') ho hoc h4
  replace hr := otyPutO (o' := o') ho hoc hr
  replace hyf : Rep.R _ (w8.putObj lp o') _ x0.ty := TyR.map (fun h => put_at ho hoc h) _ _ hyf
  replace h7 := put_at (o' := o') ho hoc h7
  replace Lw := put_low (l := lp) (o' := o') Lw
  replace hE := put_below (l := lp) (o' := o') hE (by omega) hB
  replace hB : w.heap.size ≤ (w8.putObj lp o').heap.size := by simpa using hB
  generalize hW2 : w8.putObj lp o' = W2 at hfr2 hsz2 h5 h4 hr hyf h7 Lw hE hB
  have hU2 := UpdB.refl b5 W2
  have hb5 := h5.box
  refine wpIn_block (ri_any0 (K := fun a1 w3 => KeepsFrom w6.heap.size W2 w3 ∧ (W2.heap.size ≤ w3.heap.size ∧ ∀ x, x < w6.heap.size → x ≠ b5 → w3.heap[x]? = W2.heap[x]?) ∧ _) Ext rfl rfl (fun a1 w1 h => ⟨rfl, h.1, h.2.1, h.2.2⟩) ?_ a1 ha1)
  intro w9 ew9
  replace hU2 := hU2.trans (UpdB.Y ew9 h5.lt)
  replace h5 := h5.Y Lw hB ew9
  replace h4 := h4.Y Lw hB ew9
  replace hr := hr.Y Lw hB ew9
  replace hE := ew9.bl hE hB
  replace hyf := Rep.Y hyf ew9
  replace h7 := h7.Y ew9
  replace Lw := Lw.Y ew9
  replace hB := ew9.z hB
  have hS : Ext w9 w9 := ext_refl _
  have D_h5 := h5.box
  have D_h4 := h4.box
  have D_h7 := h7
  refine a_p 0 tK rfl rfl rfl rfl (by kernel_rfl) i3 hS ?_
  refine a_ld 1 tK (fun _ hs => (D_h7.Y hs).cell 0 _ rfl) rfl rfl rfl rfl rfl rfl (by kernel_rfl) i3 hS ?_
  refine a_p 2 tK rfl rfl rfl rfl (by kernel_rfl) i3 hS ?_
  refine a_lds 3 tK (fun _ hs j v hv => ((D_h7.Y hs)).drop 1 (sub := [.int .u8 x0.ty.op, .string x0.ty.name, .int .i64 x0.ty.n, kvf]) rfl j v hv) rfl rfl rfl rfl rfl rfl rfl (by kernel_rfl) i3 hS ?_
  refine a_lds 5 tK (fun _ hs j v hv => (D_h5.Y hs).cell j v hv) rfl rfl rfl rfl rfl rfl rfl (by kernel_rfl) i3 hS ?_
  have l_h4 := h4.lt
  have l_h5 := h5.lt
  have l_hr := hr.lt
  have hB0 := hB
  refine a_one 4 rfl (by kernel_rfl) (oK fo67 rfl rfl rfl (copied_own x0.ty _ _ _ hyf Lw hzz) ?_)
  rintro vc w10 ⟨hc, ew10⟩
  replace hc := hc.ge hB0
  have hGl : ∀ c, Plus NoM w9 w10 c → w9.heap.size ≤ c := fun c h => h.elim (fun h => h.elim) (fun h => h.1)
  replace hS := hS.then ew10
  replace hU2 := hU2.trans (UpdB.Y ew10 h5.lt)
  replace h5 := h5.Y Lw hB ew10
  replace h4 := h4.Y Lw hB ew10
  replace hr := hr.Y Lw hB ew10
  replace hE := ew10.bl hE hB
  replace hyf := Rep.Y hyf ew10
  replace h7 := h7.Y ew10
  replace Lw := Lw.Y ew10
  replace hB := ew10.z hB
  refine ⟨hS, ?_⟩
  generalize Plus NoM w9 w10 = G at hc hGl
  have d_hc_h4 : ∀ x, G x → x ≠ b4 := fun x hx => by have := hGl x hx; omega
  have d_hc_h5 : ∀ x, G x → x ≠ b5 := fun x hx => by have := hGl x hx; omega
  have dcr : ∀ c, F c → ¬ (NoM c ∨ G c) := fun c hf hg => hg.elim id fun hg => by have := hGl c hg; have := (l_hr c hf).2; omega
  have l_h4 := h4.lt
  have l_h5 := h5.lt
  have l_hr := hr.lt
  have l_hc := hc.lt
  have hB0 := hB
  refine a_one 6 rfl (by kernel_rfl) (o_bs tK rfl rfl rfl rfl rfl rfl rfl (sz2 hc.size rfl) rfl rfl rfl ?_)
  intro bw11 w11 qbw11 ew11 hbw11
  have nbw11 := nO Lw qbw11
  replace hS := hS.then ew11
  replace hU2 := hU2.trans (UpdB.Y ew11 h5.lt)
  replace h5 := h5.Y Lw hB ew11
  replace h4 := h4.Y Lw hB ew11
  replace hr := hr.Y Lw hB ew11
  replace hc := hc.Y Lw hB ew11
  replace hE := ew11.bl hE hB
  replace hyf := Rep.Y hyf ew11
  replace h7 := h7.Y ew11
  replace Lw := Lw.Y ew11
  replace hB := ew11.z hB
  refine ⟨hS, ?_⟩
  have hrs : Rs (α := VN 3) (fun c => c = bw11) w11 [vc, .agg #[.int .u8 r0.op, .string r0.name, .int .i64 r0.n, kv]] [⟨vc⟩, ⟨.agg #[.int .u8 r0.op, .string r0.name, .int .i64 r0.n, kv]⟩] := ⟨hc.vn, hr.vn, trivial⟩
  have hown : OwnSl 25 w.heap.size (fun c => c = bw11) w11 (.slice (some ⟨bw11, 0, none⟩) 2 2) ([⟨vc⟩, ⟨.agg #[.int .u8 r0.op, .string r0.name, .int .i64 r0.n, kv]⟩] : List (VN 3)) := own_lit hbw11 hrs rfl (by omega) (by simp [maxLen])
  have hts := ((ots_nil (E := 25) (B := w.heap.size) (w := w11) (F := NoM) (fun _ h => h.elim)).app hc (fun _ _ h => h)).app hr dcr
  have hbl := hbw11.lt
  refine a_build (cells := [.int .u8 11, .string x0.name, .int .i64 0, .slice (some ⟨bw11, 0, none⟩) 2 2]) 7 bd25 rfl rfl rfl rfl rfl rfl (by kernel_rfl) i3 hS ?_
  have hnew : OTy 25 w.heap.size w11 (Ty.mk 11 x0.name 0 [x0.ty, r0]) (.agg #[.int .u8 11, .string x0.name, .int .i64 0, .slice (some ⟨bw11, 0, none⟩) 2 2]) (fun c => c = bw11 ∨ ((NoM c ∨ G c) ∨ F c)) := oty_mk (by decide) szf ⟨by decide, by decide⟩ (by simp) (fun c hc2 => hc2.elim (fun h => by subst h; omega) (fun h => h.elim (fun h => h.elim (fun h => h.elim) (hc.lt c)) (hr.lt c))) (hown.keepV (fun x hx => .inl (hown.inM x hx)) (fun _ _ _ _ _ => rfl)) hts (fun c hc2 => ⟨.inr hc2, fun e => by simp [Value.ownBlock] at e; subst e; exact hc2.elim (fun h => h.elim id (fun h => by have := (l_hc _ h).2; omega)) (fun h => by have := (l_hr _ h).2; omega)⟩)
  have d_hnew_h4 : ∀ x, (fun c => c = bw11 ∨ ((NoM c ∨ G c) ∨ F c)) x → x ≠ b4 := fun x hx => hx.elim (fun h => by omega) (fun h => h.elim (fun h => h.elim (fun h => h.elim) (d_hc_h4 x)) (d_hr_h4 x))
  have d_hnew_h5 : ∀ x, (fun c => c = bw11 ∨ ((NoM c ∨ G c) ∨ F c)) x → x ≠ b5 := fun x hx => hx.elim (fun h => by omega) (fun h => h.elim (fun h => h.elim (fun h => h.elim) (d_hc_h5 x)) (d_hr_h5 x))
  refine a_barS Ext 8 rfl (by kernel_rfl) (by kernel_rfl) (o_st tK h5.box rfl rfl rfl rfl (by intro u hu; simp [Value.cells] at hu; rcases hu with rfl | rfl | rfl | rfl <;> rfl) rfl rfl ?_)
  intro w12 hw12 qw12 bew12
  have uw12 : UpdB _ _ _ := ⟨qw12, bew12⟩
  have sw12 := uw12.sp h5.inM Lw h5.ge
  have frw12 := qw12.2
  replace hU2 := hU2.trans uw12
  replace h4 := h4.sp sw12 (frw12 b4 h4.lt ne_h4_h5)
  replace hnew := hnew.sp sw12 (fun x hx => frw12 x (hnew.lt x hx).2 (d_hnew_h5 x hx))
  replace hE := hE.trans sw12.below
  replace hyf := Rep.sp hyf sw12
  replace h7 := h7.sp sw12
  replace Lw := sw12.low
  replace hB := sw12.z hB
  replace hS : Ext w12 w12 := ext_refl _
  replace h5 : MB w.heap.size _ w12 b5 _ [.int .u8 11, .string x0.name, .int .i64 0, .slice (some ⟨bw11, 0, none⟩) 2 2] := ⟨hw12, h5.inM, h5.ge⟩
  have D_h5 := h5.box
  have D_h4 := h4.box
  have D_h7 := h7
  refine a_end (by kernel_rfl) ?_
  intro a3 ha3
  refine ⟨rfl, ha3.defers, ha3.defers, updb_keeps hU2 hb5, ⟨hU2.upd.1, fun x hx hn => hU2.upd.2 x (lT hx hsz2) hn⟩, ?_⟩
  show JI _ _ _ _ _ _ (ofF (l.drop (l.length - (k + 1))) e) _
  rw [hT]
  exact ⟨_, _, h5, hnew, d_hnew_h4, d_hnew_h5, h4, Lw, hB, hE, Nat.le_trans hsz2 hU2.upd.1, fun x hx hn => (hU2.upd.2 x (lT hx hsz2) hn).trans (hfr2 x hx hn)⟩
 ·intro a D W ha hD hI hDd
  rw [show (backL l us).length = l.length by simp [backL]] at hI
  replace hI : JI _ _ _ _ _ _ (ofF (l.drop (l.length - l.length)) e) _ := hI
  rw [Nat.sub_self, List.drop_zero] at hI
  obtain ⟨kv, F, h5, hr, d_hr_h4, d_hr_h5, h4, Lw, hB, hE, hfr⟩ := hI
  refine (wpIn_wide (n := m)).1 (wpIn_seq (F := Fr none) ?_)
  refine ri_reg (r := none) (K := fun a1 w1 => bodyPostM (Fr none) m Try.prog Try.f23 (Ret fun r w' => OTy 25 w.heap.size w' (ofF l e) r (Plus NoM w w') ∧ Ext w w') .ret (wd [{ target := .collected D, args := #[] }] a1) w1) rfl (fun a1 w1 h => ?_) ?_ a ha
  ·exact wpIn_ret (F := Fr none) h
  generalize hr0 : ofF l e = r0 at hr h5
  refine lC (oL tK (fun j v hv => h5.cell j v hv) rfl rfl rfl rfl rfl rfl ?_)
  refine lC (o_st tK h4.box rfl rfl rfl rfl hr.one rfl rfl ?_)
  intro w13 hw13 qw13 bew13
  have uw13 : UpdB _ _ _ := ⟨qw13, bew13⟩
  have sw13 := uw13.sp h4.inM Lw h4.ge
  have frw13 := qw13.2
  replace h5 := h5.sp sw13 (frw13 b5 h5.lt ne_h4_h5.symm)
  replace hr := hr.sp sw13 (fun x hx => frw13 x (hr.lt x hx).2 (d_hr_h4 x hx))
  replace hE := hE.trans sw13.below
  replace Lw := sw13.low
  replace hB := sw13.z hB
  replace h4 : MB w.heap.size _ w13 b4 _ [.int .u8 r0.op, .string r0.name, .int .i64 r0.n, kv] := ⟨hw13, h4.inM, h4.ge⟩
  refine lN ?_
  intro a1 ha1
  have hDd2 : w13.heap[D]? = some (.deferred (some [])) := (qw13.2 D (Array.getElem?_eq_some_iff.1 hDd).1 (fun e => by have := h4.ge; have hb := h4.box.heap; have hx := h4.lt; have : b4 < w6.heap.size := H4; omega)).trans hDd
  refine ⟨rfl, ha1.defers, m_ret hDd2 ?_⟩
  refine x_ret1s tK (fun j v hv => (put_box hDd2 rfl h4.box).cell j v hv) rfl rfl rfl rfl rfl ?_ a1 ha1
  refine ⟨?_, put_below hE (by omega) hB⟩
  
  have hfin := otyPutO (o' := .deferred none) hDd2 rfl hr
  exact hfin.mono (fun c hc => .inr (hfin.lt c hc)) (fun c hc => hc.elim (fun h => h.elim) id)
open Go Rw Go.RowKit
set_option maxRecDepth 100000
end Go.Proofs.Ytpoahmeacjggfaa
namespace Rw
/-- The canonical form; n: how deep, at most. -/
def canonN : Nat → Ty → Ty
  | 0, t => t
  | n + 1, t => bif decide (t.op = 11) then ofF ((fieldsF (spineF t).1).map fun f => ⟨f.name, canonN n f.ty⟩) (spineF t).2 else .mk t.op t.name t.n (t.kids.map (canonN n))
def canonF (t : Ty) : Ty := canonN (psz t) t
theorem spine_psz (t : Ty) : ∀ f ∈ (spineF t).1, psz f.ty < psz t := by
  induction t using Ty.ind with
  | h t ih =>
    intro f hf
    by_cases ho : t.op = 11
    · rw [spineF_eq] at hf
      split at hf
      · rename_i k r e
        have e1 : t.kids = [k.1, r.1] := by
          have := congrArg (List.map Prod.fst) e
          simpa [List.map_map, Function.comp_def] using this
        have e2 : r.2 = spineF r.1 := by
          rw [e1] at e
          simp at e
          rw [← e.2]
        rw [ho] at hf
        simp only [decide_true, cond_true] at hf
        rw [psz_eq t, e1, pszs_cons, pszs_cons]
        rcases List.mem_cons.1 hf with rfl | hf
        · simp only; omega
        · rw [e2] at hf
          have := ih r.1 (by rw [e1]; simp) f hf
          omega
      · cases hf
    · rw [spine_no ho] at hf
      cases hf
theorem fields_mem {l : List Fld} {f : Fld} (h : f ∈ fieldsF l) : f ∈ l := (fieldsF_st l).symm.mem h
theorem fields_psz {t : Ty} {f : Fld} (h : f ∈ fieldsF (spineF t).1) : psz f.ty < psz t := spine_psz t f (fields_mem h)
theorem kid_psz {t k : Ty} (h : k ∈ t.kids) : psz k < psz t := by
  have := psz_mem h
  rw [psz_eq t]; omega
theorem canonN_eq : ∀ (n m : Nat) (t : Ty), psz t ≤ n → psz t ≤ m → canonN n t = canonN m t
  | 0, _, t, h, _ => by have := psz_pos t; omega
  | _ + 1, 0, t, _, h => by have := psz_pos t; omega
  | n + 1, m + 1, t, h, k => by
    rw [canonN, canonN]
    have e1 : (fieldsF (spineF t).1).map (fun f => (⟨f.name, canonN n f.ty⟩ : Fld)) = (fieldsF (spineF t).1).map fun f => ⟨f.name, canonN m f.ty⟩ := by
      refine List.map_congr_left fun f hf => ?_
      have := fields_psz hf
      rw [canonN_eq n m f.ty (by omega) (by omega)]
    have e2 : t.kids.map (canonN n) = t.kids.map (canonN m) := by
      refine List.map_congr_left fun x hx => ?_
      have := kid_psz hx
      exact canonN_eq n m x (by omega) (by omega)
    rw [e1, e2]
def canonFld (f : Fld) : Fld := ⟨f.name, canonF f.ty⟩
theorem canonF_eq (t : Ty) : canonF t = bif decide (t.op = 11) then ofF ((fieldsF (spineF t).1).map canonFld) (spineF t).2 else .mk t.op t.name t.n (t.kids.map canonF) := by
  unfold canonF
  have hp := psz_pos t
  obtain ⟨n, hn⟩ : ∃ n, psz t = n + 1 := ⟨psz t - 1, by omega⟩
  rw [hn, canonN]
  have e1 : (fieldsF (spineF t).1).map (fun f => (⟨f.name, canonN n f.ty⟩ : Fld)) = (fieldsF (spineF t).1).map canonFld := by
    refine List.map_congr_left fun f hf => ?_
    have := fields_psz hf
    unfold canonFld canonF
    rw [canonN_eq n (psz f.ty) f.ty (by omega) (lR _)]
  have e2 : t.kids.map (canonN n) = t.kids.map fun x => canonN (psz x) x := by
    refine List.map_congr_left fun x hx => ?_
    have := kid_psz hx
    exact canonN_eq n (psz x) x (by omega) (lR _)
  rw [e1, e2]
theorem canon_row {t : Ty} (h : t.op = 11) : canonF t = ofF ((fieldsF (spineF t).1).map canonFld) (spineF t).2 := by rw [canonF_eq, h]; rfl
theorem canon_other {t : Ty} (h : t.op ≠ 11) : canonF t = .mk t.op t.name t.n (t.kids.map canonF) := by rw [canonF_eq, dF h]; rfl
theorem shape_114 {t : Ty} {c : UInt8} (h : shapeF t c = true) (ho : t.op = 11) : shapeF t 114 = true := by
  obtain ⟨_, _, _, _, _, h5⟩ := shape_pos h
  rw [ho] at h5
  have hc : (c.toNat : Int) = 114 := by simpa using h5
  have : c = 114 := UInt8.toNat_inj.1 (by
    show c.toNat = 114
    omega)
  rw [← this]; exact h
theorem spine_shape (t : Ty) : shapeF t 114 = true → ∀ f ∈ (spineF t).1, shapeF f.ty 116 = true := by
  induction t using Ty.ind with
  | h t ih =>
    intro hs f hf
    by_cases ho : t.op = 11
    · obtain ⟨k, r, hk, h1, h2⟩ := shape_row hs ho
      rw [spine_yes ho hk] at hf
      rcases List.mem_cons.1 hf with rfl | hf
      · exact h1
      · exact ih r (by rw [hk]; simp) h2 f hf
    · rw [spine_no ho] at hf
      cases hf
theorem kid_shape {t : Ty} {c : UInt8} (h : shapeF t c = true) {i : Nat} (hi : i < t.kids.length) : ∃ d, shapeF t.kids[i] d = true := by
  obtain ⟨ks, _, hl, hall, _, _⟩ := shape_pos h
  have hi2 : i < ks.data.size := by
    have : ks.data.size = ks.size := rfl
    omega
  exact ⟨ks.data[i], hall i _ _ (gE hi) (Array.getElem?_eq_getElem hi2)⟩
theorem psz_take {t : Ty} {i : Nat} (hi : i < t.kids.length) : psz t.kids[i] < psz t := kid_psz (gM hi)
/-- The first i have been made canonical. -/
def canTo (l : List Fld) (i : Nat) : List Fld := (l.take i).map canonFld ++ l.drop i
theorem canTo_zero (l : List Fld) : canTo l 0 = l := by simp [canTo]
theorem canTo_len (l : List Fld) (i : Nat) : (canTo l i).length = l.length := by simp [canTo]; omega
theorem canTo_get {l : List Fld} {i : Nat} (hi : i < l.length) : (canTo l i)[i]? = some l[i] := by
  unfold canTo
  rw [List.getElem?_append_right (by simp; omega), List.getElem?_drop]
  simp only [List.length_map, List.length_take]
  rw [show i + (i - min i l.length) = i by omega, gE hi]
theorem canTo_set {l : List Fld} {i : Nat} (hi : i < l.length) : (canTo l i).set i (canonFld l[i]) = canTo l (i + 1) := by
  unfold canTo
  rw [take_snoc hi, List.map_append, List.drop_eq_getElem_cons hi, List.set_append_right _ _ (by simp; omega)]
  simp only [List.length_map, List.length_take]
  rw [show i - min i l.length = 0 by omega, List.set_cons_zero, List.append_assoc]
  rfl
theorem canTo_all {l : List Fld} {i : Nat} (hi : l.length ≤ i) : canTo l i = l.map canonFld := by
  unfold canTo
  rw [List.take_of_length_le hi, List.drop_eq_nil_of_le hi, List.append_nil]
def fsum (l : List Fld) : Nat := (l.map fun f => 1 + psz f.ty).sum
theorem fsum_ins (f : Fld) : ∀ l : List Fld, fsum (insF f l) = 1 + psz f.ty + fsum l
  | [] => by simp [fsum, insF]
  | x :: r => by
    unfold insF
    split
    · simp [fsum]
    · have := fsum_ins f r
      simp only [fsum, List.map_cons, List.sum_cons] at this ⊢
      omega
theorem fsum_fields (l : List Fld) : fsum (fieldsF l) = fsum l := by
  have : ∀ (l acc : List Fld), fsum (l.foldl (fun acc f => insF f acc) acc) = fsum acc + fsum l := by
    intro l
    induction l with
    | nil => intro acc; simp [fsum]
    | cons f l ih =>
      intro acc
      rw [List.foldl_cons, ih, fsum_ins]
      simp only [fsum, List.map_cons, List.sum_cons]
      omega
  have h := this l []
  simpa [fsum, fieldsF] using h
theorem row_psz (t : Ty) : psz t = fsum (spineF t).1 + psz (spineF t).2 := by
  induction t using Ty.ind with
  | h t ih =>
    by_cases ho : t.op = 11
    · rcases e : t.kids with _ | ⟨k, _ | ⟨r, _ | ⟨x, l⟩⟩⟩
      · rw [spineF_eq, e]; simp [fsum]
      · rw [spineF_eq, e]; simp [fsum]
      · rw [spine_yes ho e]
        have := ih r (by rw [e]; simp)
        rw [psz_eq t, e, pszs_cons, pszs_cons, pszs_nil]
        simp only [fsum, List.map_cons, List.sum_cons] at this ⊢
        omega
      · rw [spineF_eq, e]; simp [fsum]
    · rw [spine_no ho]; simp [fsum]
theorem psz_of (l : List Fld) (e : Ty) : psz (ofF l e) = fsum l + psz e := by
  induction l with
  | nil => simp [ofF, fsum]
  | cons f l ih =>
    rw [ofF_cons, psz_eq]
    simp only [Ty.kids, pszs_cons, pszs_nil, ih]
    simp only [fsum, List.map_cons, List.sum_cons]
    omega
theorem pszs_map {g : Ty → Ty} : ∀ {l : List Ty}, (∀ x ∈ l, psz (g x) = psz x) → pszs (l.map g) = pszs l
  | [], _ => rfl
  | x :: l, h => by
    rw [List.map_cons, pszs_cons, pszs_cons, h x List.mem_cons_self, pszs_map fun y hy => h y (List.mem_cons_of_mem _ hy)]
theorem psz_canon : ∀ (n : Nat) (t : Ty), psz t ≤ n → psz (canonF t) = psz t
  | 0, t, h => by have := psz_pos t; omega
  | n + 1, t, h => by
    by_cases ho : t.op = 11
    · rw [canon_row ho, psz_of, row_psz t]
      congr 1
      rw [← fsum_fields (spineF t).1]
      unfold fsum
      rw [List.map_map]
      congr 1
      refine List.map_congr_left fun f hf => ?_
      have := fields_psz hf
      show 1 + psz (canonF f.ty) = _
      rw [psz_canon n f.ty (by omega)]
    · rw [canon_other ho, psz_eq, psz_eq t]
      congr 1
      exact pszs_map fun x hx => psz_canon n x (by have := kid_psz hx; omega)
theorem canon_small {t : Ty} {N : Nat} (h : psz t ≤ N) : ∀ x ∈ (fieldsF (spineF t).1).map canonFld, psz x.ty ≤ N := fun x hx => by
  obtain ⟨f, hf, rfl⟩ := List.mem_map.1 hx
  have := fields_psz hf
  show psz (canonF f.ty) ≤ N
  rw [psz_canon _ _ (lR _)]; omega
theorem spine_small {t : Ty} {N : Nat} (h : psz t ≤ N) : psz (spineF t).2 ≤ N := by have := row_psz t; omega
end Rw
namespace Go.Proofs.Ytpoahmeacjggfaa
open Go Rw Go.RowKit
set_option maxRecDepth 100000
theorem equal_spec (l k : List Ty) (M : Nat → Prop) (w : World) (v u : Value) (hf : ∀ x ∈ l, ∀ (y : Ty) (M : Nat → Prop) (w : World) (v u : Value), Rep.R M w v x → Rep.R M w u y → Low M w → Calls Try.prog 72 #[v, u] w (Ret fun r w' => r = .bool (@decide (x = y) (Classical.propDecidable _)) ∧ Ext w w'))
  (hs : Sl M w v l) (hk : Sl M w u k) (Lw : Low M w) :
  Calls Try.prog 101 #[v, u, .func (.func 72) #[] #[]] w (Ret fun r w' => r = .bool (@decide (l = k) (Classical.propDecidable _)) ∧ Ext w w') := by
 have hE := Below.refl w.heap.size w
 have hB := lR w.heap.size
 have hL := hs.lt
 refine cN (n := 32) Try.func101 rfl rfl rfl ?_
 refine q0 (lP 1 tK rfl (q1 (cS (q0 (lP 1 tK rfl ?_)))))
 refine lC (o_len tK hs rfl rfl rfl rfl rfl ?_)
 refine lP 1 tK rfl ?_
 refine lC (o_len tK hk rfl rfl rfl rfl rfl ?_)
 refine lP 1 tK rfl (q1 ?_)
 refine c_ifN _ rfl (fun c1 => ?_) (fun c1 => ?_)
 ·refine q0 (lP 1 tK rfl (q1 (cR (xR (x1_ rfl rfl ?_)))))
  exact ⟨by rw [cl_false (fun e => by subst e; omega)], hE⟩
 refine cK (xS (cS (q0 (lP 1 tK rfl ?_))))
 refine lC (o_len tK hs rfl rfl rfl rfl rfl ?_)
 refine lP 1 tK rfl (q1 (cB ?_))
 have hll : l.length = k.length := by omega
 refine c_loop (X := Nat) (fun i => [(1, u), (2, .func (.func 72) #[] #[]), (15, v), (16, .int .i64 (l.length : Int)), (17, .int .i64 (i : Nat))]) (fun i w' => i ≤ l.length ∧ l.take i = k.take i ∧ Sl M w' v l ∧ Sl M w' u k ∧ Low M w' ∧ Below w.heap.size w w' ∧ w.heap.size ≤ w'.heap.size) (fun i => l.length - i) (0) (s5 rfl rfl rfl rfl rfl) ?_ ?_
 ·exact ⟨Nat.zero_le _, rfl, hs, hk, Lw, hE, hB⟩
 rintro i w1 ⟨hi, htk, hs, hk, Lw, hE, hB⟩
 refine q0 (lP 1 tK rfl (q1 (cS ?_)))
 refine cP _ rfl (fun c2 => ?_) (fun c2 => ?_)
 ·have hil : i < l.length := by omega
  have hik : i < k.length := by omega
  refine cK (xS (cS (cB (q0 (lP 1 tK rfl ?_)))))
  refine lC (o_ixS tK hs (gE hil) rfl rfl rfl rfl rfl rfl rfl rfl rfl ?_)
  intro ebx eox eux hyx hX
  obtain ⟨kvx, rfl, opx, nmx, n64x, hkx⟩ := tO hyx
  replace hX : At M w1 ebx eox [.int .u8 l[i].op, .string l[i].name, .int .i64 l[i].n, kvx] := hX
  refine lC (oL tK (fun j v hv => hX.cell j v hv) rfl rfl rfl rfl rfl rfl ?_)
  refine lC (o_new tK rfl rfl rfl ?_)
  intro b8 w2 qb8 ew2 hb8
  have nb8 := nO Lw qb8
  refine lP 1 tK rfl ?_
  refine lC (o_st tK hb8 rfl rfl rfl rfl (Rep.one hyx) rfl rfl ?_)
  intro w3 h8 uw3 bew3
  have ew3 : Ext w1 w3 := ew2.trans (bew3 _ (lQ qb8.symm))
  replace hE := ew3.bl hE hB
  replace hs := hs.Y ew3
  replace hk := hk.Y ew3
  replace hyx := Rep.Y hyx ew3
  replace hkx := hkx.Y ew3
  replace hX := hX.Y ew3
  replace Lw := Lw.Y ew3
  replace hB := ew3.z hB
  replace h8 : Box w3 b8 25 [.int .u8 l[i].op, .string l[i].name, .int .i64 l[i].n, kvx] := h8
  replace h8 := h8.at nb8
  refine q1 (q0 (lP 2 tK rfl ?_))
  refine lC (o_ixS tK hk (gE hik) rfl rfl rfl rfl rfl rfl rfl rfl rfl ?_)
  intro eby eoy euy hyy haty
  obtain ⟨kvy, rfl, opy, nmy, n64y, hky⟩ := tO hyy
  replace haty : At M w3 eby eoy [.int .u8 k[i].op, .string k[i].name, .int .i64 k[i].n, kvy] := haty
  refine lC (oL tK (fun j v hv => haty.cell j v hv) rfl rfl rfl rfl rfl rfl ?_)
  refine lC (o_new tK rfl rfl rfl ?_)
  intro b9 w4 qb9 ew4 hb9
  have nb9 := nO Lw qb9
  refine lC (o_st tK hb9 rfl rfl rfl rfl (Rep.one hyy) rfl rfl ?_)
  intro w5 h9 uw5 bew5
  have ew5 : Ext w3 w5 := ew4.trans (bew5 _ (lQ qb9.symm))
  replace hE := ew5.bl hE hB
  replace hs := hs.Y ew5
  replace hk := hk.Y ew5
  replace hyx := Rep.Y hyx ew5
  replace hkx := hkx.Y ew5
  replace hX := hX.Y ew5
  replace h8 := h8.Y ew5
  replace hyy := Rep.Y hyy ew5
  replace hky := hky.Y ew5
  replace haty := haty.Y ew5
  replace Lw := Lw.Y ew5
  replace hB := ew5.z hB
  replace h9 : Box w5 b9 25 [.int .u8 k[i].op, .string k[i].name, .int .i64 k[i].n, kvy] := h9
  replace h9 := h9.at nb9
  refine q1 (q0 (lP 1 tK rfl ?_))
  refine lC (oL tK (fun j v hv => h8.cell j v hv) rfl rfl rfl rfl rfl rfl ?_)
  refine lC (oL tK (fun j v hv => h9.cell j v hv) rfl rfl rfl rfl rfl rfl ?_)
  refine lC (o_dyn rfl fo72 rfl rfl rfl (hf _ (gM hil) _ _ _ _ _ hyx hyy Lw) ?_)
  rintro _ w6 ⟨rfl, ew6⟩
  replace hE := ew6.bl hE hB
  replace hs := hs.Y ew6
  replace hk := hk.Y ew6
  replace hyx := Rep.Y hyx ew6
  replace hkx := hkx.Y ew6
  replace hX := hX.Y ew6
  replace h8 := h8.Y ew6
  replace hyy := Rep.Y hyy ew6
  replace hky := hky.Y ew6
  replace haty := haty.Y ew6
  replace h9 := h9.Y ew6
  replace Lw := Lw.Y ew6
  replace hB := ew6.z hB
  refine lP 1 tK rfl (q1 ?_)
  refine c_ifB _ rfl (fun c3 => ?_) (fun c3 => ?_)
  ·refine q0 (lP 1 tK rfl (q1 (cR (xB (xR (xR (xB (xR (x1_ rfl rfl ?_)))))))))
   exact ⟨by rw [cl_false (fun e => by subst e; exact absurd rfl (cl_not c3))], hE⟩
  refine cK (x_blk (xS (cG ?_)))
  refine lC (o_ai rfl rfl rfl (by omega) rfl rfl ?_)
  refine lP 1 tK rfl (lN ?_)
  exact x_round (i + 1) (s5 rfl rfl rfl rfl (gN rfl (by omega))) ⟨by omega, take_same hil hik htk (cl_of (by simpa using c3)), hs, hk, Lw, hE, hB⟩ (by omega)
 refine c_exit (xE (xE (x_blkE (xS (q0 (lP 1 tK rfl (q1 (cR (x1_ rfl rfl ?_)))))))))
 exact ⟨by rw [cl_true (by have := htk; rwa [List.take_of_length_le (by omega), List.take_of_length_le (by omega)] at this)], hE⟩
theorem kalike_spec : ∀ (t : Ty) (s : Ty) (M : Nat → Prop) (w : World) (v u : Value), Rep.R M w v t → Rep.R M w u s → Low M w → Calls Try.prog 72 #[v, u] w (Ret fun r w' => r = .bool (@decide (t = s) (Classical.propDecidable _)) ∧ Ext w w') := by
 refine Ty.ind fun t ih => ?_
 intro s M w v u ht hs Lw
 have hE := Below.refl w.heap.size w
 have hB := lR w.heap.size
 obtain ⟨kv, rfl, op, nm, n64, hk⟩ := tO ht
 obtain ⟨kvs, rfl, ops, nms, n64s, hks⟩ := tO hs
 refine cN (n := 29) Try.func72 rfl rfl rfl ?_
 refine q0 ?_
 refine lC (o_box rfl rfl rfl ?_)
 intro b2 w1 hb_b2 ew1 h2
 replace h2 : Box _ b2 25 [.int .u8 t.op, .string t.name, .int .i64 t.n, kv] := h2
 replace h2 := h2.at (nO Lw hb_b2)
 replace hE := ew1.bl hE hB
 replace ht := Rep.Y ht ew1
 replace hk := hk.Y ew1
 replace hs := Rep.Y hs ew1
 replace hks := hks.Y ew1
 replace Lw := Lw.Y ew1
 replace hB := ew1.z hB
 refine lC (o_box rfl rfl rfl ?_)
 intro b3 w2 hb_b3 ew2 h3
 replace h3 : Box _ b3 25 [.int .u8 s.op, .string s.name, .int .i64 s.n, kvs] := h3
 replace h3 := h3.at (nO Lw hb_b3)
 replace hE := ew2.bl hE hB
 replace ht := Rep.Y ht ew2
 replace hk := hk.Y ew2
 replace hs := Rep.Y hs ew2
 replace hks := hks.Y ew2
 replace h2 := h2.Y ew2
 replace Lw := Lw.Y ew2
 replace hB := ew2.z hB
 refine lP 1 tK rfl (q1 (cS (q0 (lP 1 tK rfl ?_))))
 refine lC (oD tK (h2.cell 0 _ rfl) rfl rfl rfl rfl rfl ?_)
 refine lP 1 tK rfl ?_
 refine lC (oD tK (h3.cell 0 _ rfl) rfl rfl rfl rfl rfl ?_)
 refine lP 2 tK rfl ?_
 refine l_splitN 10 _ rfl (fun c1 => ?_) (fun c1 => ?_)
 ·refine lP 13 tK rfl (q1 (cI rfl (q0 (lP 1 tK rfl (q1 (cR (xR (x1_ rfl rfl ?_))))))))
  exact ⟨by rw [cl_false (fun e => by subst e; simp_all)], hE⟩
 refine lP 1 tK rfl ?_
 refine lC (oD tK (h2.cell 1 _ rfl) rfl rfl rfl rfl rfl ?_)
 refine lP 1 tK rfl ?_
 refine lC (oD tK (h3.cell 1 _ rfl) rfl rfl rfl rfl rfl ?_)
 refine lP 3 tK rfl ?_
 refine l_splitN 17 _ rfl (fun c2 => ?_) (fun c2 => ?_)
 ·refine lP 6 tK rfl (q1 (cI rfl (q0 (lP 1 tK rfl (q1 (cR (xR (x1_ rfl rfl ?_))))))))
  exact ⟨by rw [cl_false (fun e => by subst e; simp_all)], hE⟩
 refine lP 1 tK rfl ?_
 refine lC (oD tK (h2.cell 2 _ rfl) rfl rfl rfl rfl rfl ?_)
 refine lP 1 tK rfl ?_
 refine lC (oD tK (h3.cell 2 _ rfl) rfl rfl rfl rfl rfl ?_)
 refine lP 2 tK rfl (q1 ?_)
 refine c_ifN _ rfl (fun c3 => ?_) (fun c3 => ?_)
 ·refine q0 (lP 1 tK rfl (q1 (cR (xR (x1_ rfl rfl ?_)))))
  exact ⟨by rw [cl_false (fun e => by subst e; simp_all)], hE⟩
 refine cK (xS (q0 (lP 1 tK rfl ?_)))
 refine lC (oD tK (h2.cell 3 _ rfl) rfl rfl rfl rfl rfl ?_)
 refine lP 1 tK rfl ?_
 refine lC (oD tK (h3.cell 3 _ rfl) rfl rfl rfl rfl rfl ?_)
 refine lC (oK fo101 rfl rfl rfl (equal_spec t.kids s.kids M _ _ _ ih hk hks Lw) ?_)
 rintro _ w3 ⟨rfl, ew3⟩
 replace hE := ew3.bl hE hB
 replace ht := Rep.Y ht ew3
 replace hk := hk.Y ew3
 replace hs := Rep.Y hs ew3
 replace hks := hks.Y ew3
 replace h2 := h2.Y ew3
 replace h3 := h3.Y ew3
 replace Lw := Lw.Y ew3
 replace hB := ew3.z hB
 refine lP 1 tK rfl (q1 (cR (x1_ rfl rfl ?_)))
 have hop : t.op = s.op := by clear ih; simp_all
 have hnm : t.name = s.name := by clear ih; simp_all
 have hnn : t.n = s.n := by clear ih; simp_all
 refine ⟨?_, hE⟩
 congr 1
 by_cases h : t.kids = s.kids
 ·rw [cl_true h, cl_true (Ty.ext' hop hnm hnn h)]
 ·rw [cl_false h, cl_false (fun e => h (by rw [e]))]
theorem canon_own (n : Nat) : ∀ (t : Ty) (c : UInt8) (M : Nat → Prop) (w : World) (v : Value), psz t ≤ n → shapeF t c = true → Rep.R M w v t → Low M w → psz t ≤ 2000000 →
  Calls Try.prog 73 #[v] w (Ret fun r w' => OTy 25 w.heap.size w' (canonF t) r (Plus NoM w w') ∧ Ext w w') := by
 induction n with
 | zero => intro t c M w v h; have := psz_pos t; omega
 | succ n ih =>
 intro t c M w v hn hsh ht hlow0 hsz
 have Lw := hlow0
 have hB := lR w.heap.size
 have hE := Below.refl w.heap.size w
 have hsub : ∀ b, M b → M b := fun _ h => h
 obtain ⟨kv, rfl, op, nm, n64, hk⟩ := tO ht
 have hps := psz_eq t
 have hkl := len_psz t.kids
 refine cN (n := 52) Try.func73 rfl rfl rfl ?_
 refine q0 ?_
 refine lC (o_box rfl rfl rfl ?_)
 intro b1 w1 qb1 ew1 hb1
 have sw1 := Stp.add ew1 Lw hB (lQ qb1.symm) hb1.lt
 have h1 : MB w.heap.size (Rw.Add M b1) w1 b1 25 [.int .u8 t.op, .string t.name, .int .i64 t.n, kv] := MB.mk' hb1 qb1 hB
 replace hE := hE.trans sw1.below
 replace ht := Rep.sp ht sw1
 replace hk := hk.sp sw1
 replace hsub := sw1.sb hsub
 replace Lw := sw1.low
 replace hB := sw1.z hB
 refine lC (o_new tK rfl rfl rfl ?_)
 intro b2 w2 qb2 ew2 hb2
 have ne_h1_h2 : b1 ≠ b2 := by have := h1.lt; omega
 have sw2 := Stp.add ew2 Lw hB (lQ qb2.symm) hb2.lt
 have h2 : MB w.heap.size (Rw.Add (Rw.Add M b1) b2) w2 b2 25 [.int .u8 0, .string ⟨#[]⟩, .int .i64 0, .slice none 0 0] := MB.mk' hb2 qb2 hB
 replace h1 := h1.sp sw2 (ew2.block b1 h1.lt)
 replace hE := hE.trans sw2.below
 replace ht := Rep.sp ht sw2
 replace hk := hk.sp sw2
 replace hsub := sw2.sb hsub
 replace Lw := sw2.low
 replace hB := sw2.z hB
 refine q1 (cS (q0 (lP 1 tK rfl ?_)))
 refine lC (oD tK (h1.cell 0 _ rfl) rfl rfl rfl rfl rfl ?_)
 refine lP 1 tK rfl (q1 ?_)
 refine cP _ rfl (fun hc0 => ?_) (fun hc0 => ?_)
 ·have hop : t.op = 11 := by omega
  refine q0 ?_
  refine lC (oL tK (fun j v hv => h1.cell j v hv) rfl rfl rfl rfl rfl rfl ?_)
  have hsh2 := shape_114 hsh hop
  have hsl := spine_len t
  have hfl0 := fieldsF_len (spineF t).1
  have lh1 := h1.lt
  have lh2 := h2.lt
  refine lC (oK fo69 rfl rfl rfl (flat_spec t _ _ _ hsh2 ht Lw hsz) ?_)
  rintro _ w3 ⟨xv, tv, M2, rfl, ho, htl, sw3⟩
  have blw3 := sw3.below
  have d_ho_h1 : ∀ x, (xv : Value).ownBlock = some x → x ≠ b1 := fun x hx => by have := (ho.lt x hx).1; omega
  have d_ho_h2 : ∀ x, (xv : Value).ownBlock = some x → x ≠ b2 := fun x hx => by have := (ho.lt x hx).1; omega
  replace sw3 := sw3.mono hB
  replace ho := ho.mono hB
  replace h1 := h1.sp sw3 (blw3.block b1 lh1)
  replace h2 := h2.sp sw3 (blw3.block b2 lh2)
  replace hE := hE.trans sw3.below
  replace ht := Rep.sp ht sw3
  replace hk := hk.sp sw3
  replace hsub := sw3.sb hsub
  replace Lw := sw3.low
  replace hB := sw3.z hB
  obtain ⟨kve, rfl, ope, nme, n64e, hke⟩ := tO htl
  refine lP 3 tK rfl ?_
  refine lC (o_new tK rfl rfl rfl ?_)
  intro b4 w4 qb4 ew4 hb4
  have nb4 := nO Lw qb4
  refine lP 1 tK rfl ?_
  refine lC (o_st tK hb4 rfl rfl rfl rfl (Rep.one htl) rfl rfl ?_)
  intro w5 h4 uw5 bew5
  have ew5 : Ext w3 w5 := ew4.trans (bew5 _ (lQ qb4.symm))
  replace h1 := h1.Y Lw hB ew5
  replace h2 := h2.Y Lw hB ew5
  replace ho := ho.Y Lw hB ew5
  replace hE := ew5.bl hE hB
  replace ht := Rep.Y ht ew5
  replace hk := hk.Y ew5
  replace htl := Rep.Y htl ew5
  replace hke := hke.Y ew5
  replace Lw := Lw.Y ew5
  replace hB := ew5.z hB
  replace h4 : Box w5 b4 25 [.int .u8 (spineF t).2.op, .string (spineF t).2.name, .int .i64 (spineF t).2.n, kve] := h4
  replace h4 := h4.at nb4
  refine q1 (cS (q0 (lP 1 tK rfl ?_)))
  refine lC (o_lenO tK ho rfl rfl rfl rfl rfl ?_)
  refine lP 1 tK rfl (q1 (cB ?_))
  refine c_loop (X := Nat) (fun i => [(2, .pointer (some ⟨b2, 0, none⟩)), (3, xv), (4, .pointer (some ⟨b4, 0, none⟩)), (18, .int .i64 ((fieldsF (spineF t).1).length : Int)), (19, .int .i64 (i : Nat))]) (fun i w' => i ≤ (fieldsF (spineF t).1).length ∧ OwnSl 32 w.heap.size M2 w' xv (canTo (fieldsF (spineF t).1) i) ∧ MB w.heap.size M2 w' b1 25 [.int .u8 t.op, .string t.name, .int .i64 t.n, kv] ∧ MB w.heap.size M2 w' b2 25 [.int .u8 0, .string ⟨#[]⟩, .int .i64 0, .slice none 0 0] ∧ At M2 w' b4 0 [.int .u8 (spineF t).2.op, .string (spineF t).2.name, .int .i64 (spineF t).2.n, kve] ∧ Rep.R M2 w' (.agg #[.int .u8 (spineF t).2.op, .string (spineF t).2.name, .int .i64 (spineF t).2.n, kve]) (spineF t).2 ∧ Low M2 w' ∧ (∀ b, M b → M2 b) ∧ Below w.heap.size w w' ∧ w.heap.size ≤ w'.heap.size) (fun i => (fieldsF (spineF t).1).length - i) (0) (s5 rfl rfl rfl (gN rfl (by omega)) (gN rfl rfl)) ?_ ?_
  ·refine ⟨Nat.zero_le _, ?_, h1, h2, h4, htl, Lw, hsub, hE, hB⟩
   rw [canTo_zero]; exact ho
  clear hsub
  rintro i w6 ⟨hi, ho, h1, h2, h4, htl, Lw, hsub, hE, hB⟩
  have hcl := canTo_len (fieldsF (spineF t).1) i
  refine q0 (lP 1 tK rfl (q1 (cS ?_)))
  refine cP _ rfl (fun c1 => ?_) (fun c1 => ?_)
  ·have hil : i < (fieldsF (spineF t).1).length := by omega
   refine cK (xS (cS (cB (q0 (lP 2 tK rfl (q1 (cG (lP 4 tK rfl ?_))))))))
   refine lC (o_ixO tK ho (canTo_get hil) rfl rfl rfl rfl rfl rfl rfl rfl rfl ?_)
   intro ibx iux hobx hrx hX
   obtain ⟨szx, kvx, rfl, hyx⟩ := fld_open hrx
   replace hX : At NoM w6 ibx _ [.string (fieldsF (spineF t).1)[i].name, .int .u8 (fieldsF (spineF t).1)[i].ty.op, .string (fieldsF (spineF t).1)[i].ty.name, .int .i64 (fieldsF (spineF t).1)[i].ty.n, kvx] := ⟨(ho.lt _ hobx).2, fun h => h, hX.cell⟩
   refine lP 1 tK rfl ?_
   refine lC (oL tK (fun j v hv => (hX).drop 1 (sub := [.int .u8 (fieldsF (spineF t).1)[i].ty.op, .string (fieldsF (spineF t).1)[i].ty.name, .int .i64 (fieldsF (spineF t).1)[i].ty.n, kvx]) rfl j v hv) rfl rfl rfl rfl rfl rfl ?_)
   have hfm := gM hil
   have hfp := fields_psz hfm
   have hfs := spine_shape t hsh2 _ (fields_mem hfm)
   refine lC (oK fo73 rfl rfl rfl (ih _ 116 _ _ _ (by omega) hfs hyx Lw (by omega)) ?_)
   rintro vc w7 ⟨hc, ew7⟩
   replace hc := hc.repNew Lw
   replace ho := ho.Y Lw hB ew7
   replace h1 := h1.Y Lw hB ew7
   replace h2 := h2.Y Lw hB ew7
   replace hE := ew7.bl hE hB
   replace h4 := h4.Y ew7
   replace htl := Rep.Y htl ew7
   replace hrx := Rep.Y hrx ew7
   replace hyx := Rep.Y hyx ew7
   replace Lw := Lw.Y ew7
   replace hB := ew7.z hB
   obtain ⟨kvc, rfl, opc, nmc, n64c, hkc⟩ := tO hc
   refine lC (o_ixO tK ho (canTo_get hil) rfl rfl rfl rfl rfl rfl rfl rfl rfl ?_)
   intro ibz iuz hobz hrz hatz
   obtain ⟨szz, kvz, rfl, hyz⟩ := fld_open hrz
   replace hatz : OAt _ _ _ [.string (fieldsF (spineF t).1)[i].name, .int .u8 (fieldsF (spineF t).1)[i].ty.op, .string (fieldsF (spineF t).1)[i].ty.name, .int .i64 (fieldsF (spineF t).1)[i].ty.n, kvz] := hatz
   refine lP 1 tK rfl ?_
   have hnf : Rep.R _ w7 (.agg #[.string (fieldsF (spineF t).1)[i].name, .int .u8 (canonF (fieldsF (spineF t).1)[i].ty).op, .string (canonF (fieldsF (spineF t).1)[i].ty).name, .int .i64 (canonF (fieldsF (spineF t).1)[i].ty).n, kvc]) (canonFld (fieldsF (spineF t).1)[i]) := fld_mk szz hc
   refine lC (o_stP (j := i) (k := 1) (us := [.string (fieldsF (spineF t).1)[i].name, .int .u8 (fieldsF (spineF t).1)[i].ty.op, .string (fieldsF (spineF t).1)[i].ty.name, .int .i64 (fieldsF (spineF t).1)[i].ty.n, kvz]) tK ho hobz (by omega) (fun q a hq => hatz.cell q a hq) rfl hnf Lw rfl rfl rfl rfl rfl rfl rfl (Rep.one hc) (by decide) rfl rfl ?_)
   intro w8 hw8 sw8 frw8
   replace h1 := h1.sp sw8 (frw8 b1 h1.lt (fun e => d_ho_h1 _ hobz e.symm))
   replace h2 := h2.sp sw8 (frw8 b2 h2.lt (fun e => d_ho_h2 _ hobz e.symm))
   replace hE := hE.trans sw8.below
   replace h4 := h4.sp sw8
   replace htl := Rep.sp htl sw8
   replace hrx := Rep.sp hrx sw8
   replace hyx := Rep.sp hyx sw8
   replace hc := Rep.sp hc sw8
   replace hsub := sw8.sb hsub
   replace Lw := sw8.low
   replace hB := sw8.z hB
   replace ho := hw8
   clear hw8
   refine q2 (xS (cG ?_))
   refine lC (o_ai rfl rfl rfl (by omega) rfl rfl ?_)
   refine lP 1 tK rfl (lN ?_)
   exact x_round (i + 1) (s5 rfl rfl rfl rfl (gN rfl (by omega))) ⟨by omega, by rw [← canTo_set hil]; exact ho, h1, h2, h4, htl, Lw, hsub, hE, hB⟩ (by omega)
  refine c_exit (xE (xE (x_blkE (xS (q0 (lP 1 tK rfl ?_))))))
  refine lC (oL tK (fun j v hv => h4.cell j v hv) rfl rfl rfl rfl rfl rfl ?_)
  have hall : canTo (fieldsF (spineF t).1) i = (fieldsF (spineF t).1).map canonFld := canTo_all (by omega)
  rw [hall] at ho
  have hml : ((fieldsF (spineF t).1).map canonFld).length = (fieldsF (spineF t).1).length := List.length_map _
  have hfz := ho.froze (by omega)
  replace h1 := h1.less (v := xv) d_ho_h1
  replace h2 := h2.less (v := xv) d_ho_h2
  replace h4 := h4.wk (fun b _ h => less_sub (v := xv) b h)
  replace htl := Rep.wk htl (fun b _ h => less_sub (v := xv) b h)
  replace Lw : Low (Less M2 xv) w6 := fun b h => Lw b h.1
  replace hsub : ∀ b, _ → Less M2 xv b := fun b h => ⟨hsub b h, fun e => by have := (ho.lt b e).1; have := hlow0 b h; omega⟩
  have l_h1 := h1.lt
  have l_h2 := h2.lt
  have hB0 := hB
  refine lC (oK fo23 rfl rfl rfl (join_own _ _ _ _ _ _ 0 hfz htl Lw (canon_small hsz) (spine_small hsz)) ?_)
  rintro vj w9 ⟨hj, ew9⟩
  rw [← canon_row hop] at hj
  replace hj := hj.ge hB0
  have hGl : ∀ c, Plus NoM w6 w9 c → w6.heap.size ≤ c := fun c h => h.elim (fun h => h.elim) (fun h => h.1)
  replace h1 := h1.Y Lw hB ew9
  replace h2 := h2.Y Lw hB ew9
  replace hE := ew9.bl hE hB
  replace h4 := h4.Y ew9
  replace htl := Rep.Y htl ew9
  replace hfz := hfz.Y ew9
  replace Lw := Lw.Y ew9
  replace hB := ew9.z hB
  generalize Plus NoM w6 w9 = G at hj hGl
  have d_hj_h1 : ∀ x, G x → x ≠ b1 := fun x hx => by have := hGl x hx; omega
  have d_hj_h2 : ∀ x, G x → x ≠ b2 := fun x hx => by have := hGl x hx; omega
  obtain ⟨kvj, usj, Hj, rfl, opj, nmj, n64j, hknj, hrj, hOj, hHj⟩ := oty_open hj
  refine lC (o_st tK h2.box rfl rfl rfl rfl hj.one rfl rfl ?_)
  intro w10 hw10 qw10 bew10
  have uw10 : UpdB _ _ _ := ⟨qw10, bew10⟩
  have sw10 := uw10.sp h2.inM Lw h2.ge
  have frw10 := qw10.2
  replace h1 := h1.sp sw10 (frw10 b1 h1.lt ne_h1_h2)
  replace hj := hj.sp sw10 (fun x hx => frw10 x (hj.lt x hx).2 (d_hj_h2 x hx))
  replace hE := hE.trans sw10.below
  replace h4 := h4.sp sw10
  replace htl := Rep.sp htl sw10
  replace hfz := hfz.sp sw10
  replace hsub := sw10.sb hsub
  replace Lw := sw10.low
  replace hB := sw10.z hB
  replace h2 : MB w.heap.size _ w10 b2 _ [.int .u8 (canonF t).op, .string (canonF t).name, .int .i64 (canonF t).n, kvj] := ⟨hw10, h2.inM, h2.ge⟩
  refine q1 (cR (xR ?_))
  refine x_ret1s tK (fun j v hv => h2.cell j v hv) rfl rfl rfl rfl rfl ?_
  exact ⟨hj.mono (fun c hc => .inr (hj.lt c hc)) (fun c hc => hc.elim (fun h => h.elim) id), hE⟩
 have hop : t.op ≠ 11 := by omega
 refine cK (xS (q0 (lP 1 tK rfl (q1 (cS (q0 (lP 1 tK rfl ?_)))))))
 refine lC (oD tK (h1.cell 3 _ rfl) rfl rfl rfl rfl rfl ?_)
 refine lC (o_len tK hk rfl rfl rfl rfl rfl ?_)
 refine lP 1 tK rfl (q1 (cB ?_))
 have d_ho_h1 : ∀ x, (.slice none 0 0 : Value).ownBlock = some x → x ≠ b1 := fun x hx => by simp [Value.ownBlock] at hx
 have d_ho_h2 : ∀ x, (.slice none 0 0 : Value).ownBlock = some x → x ≠ b2 := fun x hx => by simp [Value.ownBlock] at hx
 have d_hO_h1 : ∀ x, NoM x → x ≠ b1 := fun _ h => h.elim
 have d_hO_h2 : ∀ x, NoM x → x ≠ b2 := fun _ h => h.elim
 have dd_ho_hO : ∀ x y, (.slice none 0 0 : Value).ownBlock = some x → NoM y → x ≠ y := fun _ _ _ h => h.elim
 refine c_loop5 (X := Nat) (Y := Value) (Z := Nat → Prop) (U := List (VN 3)) (V := Nat → Prop) (fun i v M1 us F => [(1, .pointer (some ⟨b1, 0, none⟩)), (2, .pointer (some ⟨b2, 0, none⟩)), (6, v), (37, kv), (38, .int .i64 (t.kids.length : Int)), (39, .int .i64 (i : Nat))]) (fun i v M1 us F w' => i ≤ t.kids.length ∧ OwnSl 25 w.heap.size M1 w' v us ∧ OTs 25 w.heap.size w' us ((t.kids.take i).map canonF) F ∧ MB w.heap.size M1 w' b1 25 [.int .u8 t.op, .string t.name, .int .i64 t.n, kv] ∧ MB w.heap.size M1 w' b2 25 [.int .u8 0, .string ⟨#[]⟩, .int .i64 0, .slice none 0 0] ∧ (∀ x, (v : Value).ownBlock = some x → x ≠ b1) ∧ (∀ x, (v : Value).ownBlock = some x → x ≠ b2) ∧ (∀ x, F x → x ≠ b1) ∧ (∀ x, F x → x ≠ b2) ∧ (∀ x y, (v : Value).ownBlock = some x → F y → x ≠ y) ∧ Sl M1 w' kv t.kids ∧ Low M1 w' ∧ (∀ b, M b → M1 b) ∧ Below w.heap.size w w' ∧ w.heap.size ≤ w'.heap.size) (fun i v M1 us F => t.kids.length - i) (0) (.slice none 0 0) ((Rw.Add (Rw.Add M b1) b2)) ([]) (NoM) (s6 rfl rfl rfl rfl rfl rfl) ?_ ?_
 ·exact ⟨Nat.zero_le _, own_nil, ots_nil (fun _ h => h.elim), h1, h2, d_ho_h1, d_ho_h2, d_hO_h1, d_hO_h2, dd_ho_hO, hk, Lw, hsub, hE, hB⟩
 rintro i v M1 us F w11 ⟨hi, ho, hO, h1, h2, d_ho_h1, d_ho_h2, d_hO_h1, d_hO_h2, dd_ho_hO, hk, Lw, hsub, hE, hB⟩
 have hul := hO.len
 rw [List.length_map, List.length_take] at hul
 refine q0 (lP 1 tK rfl (q1 (cS ?_)))
 refine cP _ rfl (fun c2 => ?_) (fun c2 => ?_)
 ·refine cK (xS (cS (cB (q0 ?_))))
  have hik : i < t.kids.length := by omega
  have hp1 := psz_take hik
  obtain ⟨kd, hkd⟩ := kid_shape hsh hik
  refine lC (o_ixS tK hk (gE hik) rfl rfl rfl rfl rfl rfl rfl rfl rfl ?_)
  intro ebx eox eux hyx hX
  obtain ⟨kvx, rfl, opx, nmx, n64x, hkx⟩ := tO hyx
  replace hX : At M1 w11 ebx eox [.int .u8 t.kids[i].op, .string t.kids[i].name, .int .i64 t.kids[i].n, kvx] := hX
  refine lC (oL tK (fun j v hv => hX.cell j v hv) rfl rfl rfl rfl rfl rfl ?_)
  refine lC (o_new tK rfl rfl rfl ?_)
  intro b8 w12 qb8 ew12 hb8
  have nb8 := nO Lw qb8
  refine lC (o_st tK hb8 rfl rfl rfl rfl (Rep.one hyx) rfl rfl ?_)
  intro w13 h8 uw13 bew13
  have ew13 : Ext w11 w13 := ew12.trans (bew13 _ (lQ qb8.symm))
  replace ho := ho.Y Lw hB ew13
  replace hO := hO.Y Lw hB ew13
  replace h1 := h1.Y Lw hB ew13
  replace h2 := h2.Y Lw hB ew13
  replace hE := ew13.bl hE hB
  replace hk := hk.Y ew13
  replace hyx := Rep.Y hyx ew13
  replace hkx := hkx.Y ew13
  replace hX := hX.Y ew13
  replace Lw := Lw.Y ew13
  replace hB := ew13.z hB
  replace h8 : Box w13 b8 25 [.int .u8 t.kids[i].op, .string t.kids[i].name, .int .i64 t.kids[i].n, kvx] := h8
  replace h8 := h8.at nb8
  refine q1 (cG (lP 1 tK rfl ?_))
  refine lC (oL tK (fun j v hv => h8.cell j v hv) rfl rfl rfl rfl rfl rfl ?_)
  have l_h1 := h1.lt
  have l_h2 := h2.lt
  have l_ho := ho.lt
  have l_hO := hO.lt
  have hB0 := hB
  refine lC (oK fo73 rfl rfl rfl (ih _ _ _ _ _ (by omega) hkd hyx Lw (by omega)) ?_)
  rintro vc w14 ⟨hc, ew14⟩
  replace hc := hc.ge hB0
  have hGl : ∀ c, Plus NoM w13 w14 c → w13.heap.size ≤ c := fun c h => h.elim (fun h => h.elim) (fun h => h.1)
  replace ho := ho.Y Lw hB ew14
  replace hO := hO.Y Lw hB ew14
  replace h1 := h1.Y Lw hB ew14
  replace h2 := h2.Y Lw hB ew14
  replace hE := ew14.bl hE hB
  replace hk := hk.Y ew14
  replace hyx := Rep.Y hyx ew14
  replace hkx := hkx.Y ew14
  replace hX := hX.Y ew14
  replace h8 := h8.Y ew14
  replace Lw := Lw.Y ew14
  replace hB := ew14.z hB
  generalize Plus NoM w13 w14 = G at hc hGl
  have d_hc_h1 : ∀ x, G x → x ≠ b1 := fun x hx => by have := hGl x hx; omega
  have d_hc_h2 : ∀ x, G x → x ≠ b2 := fun x hx => by have := hGl x hx; omega
  have dd_ho_hc : ∀ x y, (v : Value).ownBlock = some x → G y → x ≠ y := fun x y hx hy => by have := hGl y hy; have := (l_ho x hx).2; omega
  have dd_hc_hO : ∀ c, G c → ¬ F c := fun c hg hf => by have := hGl c hg; have := (l_hO c hf).2; omega
  refine lC (o_bs tK rfl rfl rfl rfl rfl rfl rfl (sz1 hc.size) rfl rfl rfl ?_)
  intro bw15 w15 qbw15 ew15 hbw15
  have nbw15 := nO Lw qbw15
  replace ho := ho.Y Lw hB ew15
  replace hO := hO.Y Lw hB ew15
  replace h1 := h1.Y Lw hB ew15
  replace h2 := h2.Y Lw hB ew15
  replace hc := hc.Y Lw hB ew15
  replace hE := ew15.bl hE hB
  replace hk := hk.Y ew15
  replace hyx := Rep.Y hyx ew15
  replace hkx := hkx.Y ew15
  replace hX := hX.Y ew15
  replace h8 := h8.Y ew15
  replace Lw := Lw.Y ew15
  replace hB := ew15.z hB
  refine lC (o_app1 tK ho hbw15 nbw15 hc.vn Lw hB rfl rfl rfl rfl rfl rfl rfl (by omega) (by show (_ + _) * 56 ≤ _; omega) rfl rfl ?_)
  intro vw16 w16 Mw16 hw16 sw16 frw16 blw16
  have zd_ho_h1 := d_ho_h1
  replace d_ho_h1 : ∀ x, (vw16 : Value).ownBlock = some x → x ≠ b1 := fun x hx => (blw16 x hx).elim (d_ho_h1 x) (fun h e => by have := h1.lt; omega)
  have zd_ho_h2 := d_ho_h2
  replace d_ho_h2 : ∀ x, (vw16 : Value).ownBlock = some x → x ≠ b2 := fun x hx => (blw16 x hx).elim (d_ho_h2 x) (fun h e => by have := h2.lt; omega)
  have zdd_ho_hO := dd_ho_hO
  replace dd_ho_hO : ∀ x y, (vw16 : Value).ownBlock = some x → F y → x ≠ y := fun x y hx hy => (blw16 x hx).elim (fun h => dd_ho_hO x y h hy) (fun h e => by have := (hO.lt y hy).2; omega)
  have zdd_ho_hc := dd_ho_hc
  replace dd_ho_hc : ∀ x y, (vw16 : Value).ownBlock = some x → G y → x ≠ y := fun x y hx hy => (blw16 x hx).elim (fun h => dd_ho_hc x y h hy) (fun h e => by have := (hc.lt y hy).2; omega)
  replace hO := hO.sp sw16 (fun x hx => frw16 x (hO.lt x hx).2 (fun e => zdd_ho_hO x x e.symm hx rfl))
  replace h1 := h1.sp sw16 (frw16 b1 h1.lt (fun e => zd_ho_h1 _ e.symm rfl))
  replace h2 := h2.sp sw16 (frw16 b2 h2.lt (fun e => zd_ho_h2 _ e.symm rfl))
  replace hc := hc.sp sw16 (fun x hx => frw16 x (hc.lt x hx).2 (fun e => zdd_ho_hc x x e.symm hx rfl))
  replace hE := hE.trans sw16.below
  replace hk := hk.sp sw16
  replace hyx := Rep.sp hyx sw16
  replace hkx := hkx.sp sw16
  replace hX := hX.sp sw16
  replace h8 := h8.sp sw16
  replace hsub := sw16.sb hsub
  replace Lw := sw16.low
  replace hB := sw16.z hB
  replace ho := hw16
  clear hw16
  refine lP 1 tK rfl (q2 (xS (cG ?_)))
  refine lC (o_ai rfl rfl rfl (by omega) rfl rfl ?_)
  refine lP 1 tK rfl (lN ?_)
  have hO2 := hO.app hc dd_hc_hO
  exact x_round5 (i + 1) (vw16) (Mw16) (us ++ [⟨vc⟩]) (fun c => F c ∨ G c) (s6 rfl rfl rfl rfl rfl (gN rfl (by omega))) ⟨by omega, ho, by rw [List.take_succ_eq_append_getElem hik, List.map_append]; exact hO2, h1, h2, d_ho_h1, d_ho_h2, (fun x hx => hx.elim (d_hO_h1 x) (d_hc_h1 x)), (fun x hx => hx.elim (d_hO_h2 x) (d_hc_h2 x)), (fun x y hx hy => hy.elim (dd_ho_hO x y hx) (dd_ho_hc x y hx)), hk, Lw, hsub, hE, hB⟩ (by omega)
 refine c_exit (xE (xE (x_blkE (xS (q0 (lP 2 tK rfl ?_))))))
 obtain rfl : i = t.kids.length := by omega
 rw [List.take_of_length_le (lR _)] at hO
 obtain ⟨av, cv, rfl, hcv⟩ := ho.val
 refine lC (o_st tK h1.box rfl rfl rfl rfl (by simp [Value.cells, Value.oneCell']) rfl rfl ?_)
 intro w17 hw17 qw17 bew17
 have uw17 : UpdB _ _ _ := ⟨qw17, bew17⟩
 have sw17 := uw17.sp h1.inM Lw h1.ge
 have frw17 := qw17.2
 replace ho := ho.sp sw17 (fun x hx => frw17 x (ho.lt x hx).2 (d_ho_h1 x hx))
 replace hO := hO.sp sw17 (fun x hx => frw17 x (hO.lt x hx).2 (d_hO_h1 x hx))
 replace h2 := h2.sp sw17 (frw17 b2 h2.lt ne_h1_h2.symm)
 replace hE := hE.trans sw17.below
 replace hk := hk.sp sw17
 replace hsub := sw17.sb hsub
 replace Lw := sw17.low
 replace hB := sw17.z hB
 replace h1 : MB w.heap.size _ w17 b1 _ [.int .u8 t.op, .string t.name, .int .i64 t.n, .slice av us.length cv] := ⟨hw17, h1.inM, h1.ge⟩
 refine q1 (q0 ?_)
 refine lC (oL tK (fun j v hv => h1.cell j v hv) rfl rfl rfl rfl rfl rfl ?_)
 refine lC (o_st tK h2.box rfl rfl rfl rfl (by intro u hu; simp [Value.cells] at hu; rcases hu with rfl | rfl | rfl | rfl <;> rfl) rfl rfl ?_)
 intro w18 hw18 qw18 bew18
 have uw18 : UpdB _ _ _ := ⟨qw18, bew18⟩
 have sw18 := uw18.sp h2.inM Lw h2.ge
 have frw18 := qw18.2
 replace ho := ho.sp sw18 (fun x hx => frw18 x (ho.lt x hx).2 (d_ho_h2 x hx))
 replace hO := hO.sp sw18 (fun x hx => frw18 x (hO.lt x hx).2 (d_hO_h2 x hx))
 replace h1 := h1.sp sw18 (frw18 b1 h1.lt ne_h1_h2)
 replace hE := hE.trans sw18.below
 replace hk := hk.sp sw18
 replace hsub := sw18.sb hsub
 replace Lw := sw18.low
 replace hB := sw18.z hB
 replace h2 : MB w.heap.size _ w18 b2 _ [.int .u8 t.op, .string t.name, .int .i64 t.n, .slice av us.length cv] := ⟨hw18, h2.inM, h2.ge⟩
 refine q1 (cR ?_)
 refine x_ret1s tK (fun j v hv => h2.cell j v hv) rfl rfl rfl rfl rfl ?_
 have hfin := oty_fin op nm n64 (by simp; omega) ho hO dd_ho_hO
 rw [← canon_other hop] at hfin
 exact ⟨hfin, hE⟩
theorem canon_all (n : Nat) (t : Ty) (c : UInt8) (M : Nat → Prop) (w : World) (v : Value) (hn : psz t ≤ n) (hsh : shapeF t c = true) (ht : Rep.R M w v t) (Lw : Low M w) (hsz : psz t ≤ 2000000) :
  Calls Try.prog 73 #[v] w (Ret fun r w' => Rep.R M w' r (canonF t) ∧ Ext w w') := (canon_own n t c M w v hn hsh ht Lw hsz).mono (Ret.mono fun r w' h => ⟨h.1.repNew Lw, h.2⟩)
theorem kRow_specB (t : Ty) (M : Nat → Prop) (w : World) (v : Value) (ht : Rep.R M w v t) (Lw : Low M w) : Calls Try.prog 18 #[v] w (Ret fun r w' => r = .bool (rowB t) ∧ Ext w w') := by
 have h := kRow_spec t M w v ht Lw
 rwa [rowB_law] at h
theorem either_specB (t : Ty) (M : Nat → Prop) (w : World) (v : Value) (ht : Rep.R M w v t) (Lw : Low M w) : Calls Try.prog 70 #[v] w (Ret fun r w' => r = .bool (rightB t || rowB t) ∧ Ext w w') := by
 have h := either_spec t M w v ht Lw
 rwa [rightB_law, rowB_law] at h
theorem shape_either {t : Ty} (h : (rightB t || rowB t) = true) : ∃ c, shapeF t c = true := by
 rw [Bool.or_eq_true] at h
 rcases h with h | h
 ·unfold rightB at h; rw [Bool.and_eq_true] at h; exact ⟨_, h.1⟩
 ·unfold rowB at h; rw [Bool.and_eq_true] at h; exact ⟨_, h.1⟩
theorem kSame_spec (t s : Ty) (M : Nat → Prop) (w : World) (v u : Value) (ht : Rep.R M w v t) (hs : Rep.R M w u s) (Lw : Low M w) (hz : psz t ≤ 2000000) (hzs : psz s ≤ 2000000) :
  Calls Try.prog 36 #[v, u] w (Ret fun r w' => r = .bool ((rightB t || rowB t) && ((rightB s || rowB s) && (@decide (canonF t = canonF s) (Classical.propDecidable _)))) ∧ Ext w w') := by
 have hE := Below.refl w.heap.size w
 have hB := lR w.heap.size
 obtain ⟨kv, rfl, op, nm, n64, hk⟩ := tO ht
 obtain ⟨kvs, rfl, ops, nms, n64s, hks⟩ := tO hs
 refine cN (n := 18) Try.func36 rfl rfl rfl ?_
 refine q0 ?_
 refine lC (o_box rfl rfl rfl ?_)
 intro b2 w1 hb_b2 ew1 h2
 replace h2 : Box _ b2 25 [.int .u8 t.op, .string t.name, .int .i64 t.n, kv] := h2
 replace h2 := h2.at (nO Lw hb_b2)
 replace hE := ew1.bl hE hB
 replace ht := Rep.Y ht ew1
 replace hk := hk.Y ew1
 replace hs := Rep.Y hs ew1
 replace hks := hks.Y ew1
 replace Lw := Lw.Y ew1
 replace hB := ew1.z hB
 refine lC (o_box rfl rfl rfl ?_)
 intro b3 w2 hb_b3 ew2 h3
 replace h3 : Box _ b3 25 [.int .u8 s.op, .string s.name, .int .i64 s.n, kvs] := h3
 replace h3 := h3.at (nO Lw hb_b3)
 replace hE := ew2.bl hE hB
 replace ht := Rep.Y ht ew2
 replace hk := hk.Y ew2
 replace hs := Rep.Y hs ew2
 replace hks := hks.Y ew2
 replace h2 := h2.Y ew2
 replace Lw := Lw.Y ew2
 replace hB := ew2.z hB
 refine lP 1 tK rfl (q1 (cS ?_))
 refine a_beg Ext rfl ?_
 intro w3 ew3
 replace hE := ew3.bl hE hB
 replace ht := Rep.Y ht ew3
 replace hk := hk.Y ew3
 replace hs := Rep.Y hs ew3
 replace hks := hks.Y ew3
 replace h2 := h2.Y ew3
 replace h3 := h3.Y ew3
 replace Lw := Lw.Y ew3
 replace hB := ew3.z hB
 have hS : Ext w3 w3 := ext_refl _
 have D_hk := hk
 have D_hks := hks
 have D_h2 := h2
 have D_h3 := h3
 refine a_lds 0 tK (fun _ hs j v hv => (D_h2.Y hs).cell j v hv) rfl rfl rfl rfl rfl rfl rfl (by kernel_rfl) i3 hS ?_
 refine a_bar 1 rfl (by kernel_rfl) (by kernel_rfl) (oK fo70 rfl rfl rfl (either_specB t M _ _ ht Lw) ?_)
 rintro _ w4 ⟨rfl, ew4⟩
 replace hS := hS.then ew4
 replace hE := ew4.bl hE hB
 replace ht := Rep.Y ht ew4
 replace hk := hk.Y ew4
 replace hs := Rep.Y hs ew4
 replace hks := hks.Y ew4
 replace h2 := h2.Y ew4
 replace h3 := h3.Y ew4
 replace Lw := Lw.Y ew4
 replace hB := ew4.z hB
 refine a_p 2 tK rfl rfl rfl rfl (by kernel_rfl) i3 hS ?_
 refine a_split 7 _ rfl (fun c1 => ?_) (fun c1 => ?_)
 ·refine a_lds 3 tK (fun _ hs j v hv => (D_h3.Y hs).cell j v hv) rfl rfl rfl rfl rfl rfl rfl (by kernel_rfl) i3 hS ?_
  refine a_bar 4 rfl (by kernel_rfl) (by kernel_rfl) (oK fo70 rfl rfl rfl (either_specB s M _ _ hs Lw) ?_)
  rintro _ w5 ⟨rfl, ew5⟩
  replace hS := hS.then ew5
  replace hE := ew5.bl hE hB
  replace ht := Rep.Y ht ew5
  replace hk := hk.Y ew5
  replace hs := Rep.Y hs ew5
  replace hks := hks.Y ew5
  replace h2 := h2.Y ew5
  replace h3 := h3.Y ew5
  replace Lw := Lw.Y ew5
  replace hB := ew5.z hB
  refine a_p 5 tK rfl rfl rfl rfl (by kernel_rfl) i3 hS ?_
  refine a_p 6 tK rfl rfl rfl rfl (by kernel_rfl) i3 hS ?_
  refine a_split 11 _ rfl (fun c2 => ?_) (fun c2 => ?_)
  ·refine a_lds 7 tK (fun _ hs j v hv => (D_h2.Y hs).cell j v hv) rfl rfl rfl rfl rfl rfl rfl (by kernel_rfl) i3 hS ?_
   refine a_lds 9 tK (fun _ hs j v hv => (D_h3.Y hs).cell j v hv) rfl rfl rfl rfl rfl rfl rfl (by kernel_rfl) i3 hS ?_
   refine a_one 8 rfl (by kernel_rfl) (oK fo73 rfl rfl rfl (canon_all _ t _ M _ _ (lR _) (Classical.choose_spec (shape_either c1)) ht Lw hz) ?_)
   rintro vhct w6 ⟨hct, ew6⟩
   replace hS := hS.then ew6
   replace hE := ew6.bl hE hB
   replace ht := Rep.Y ht ew6
   replace hk := hk.Y ew6
   replace hs := Rep.Y hs ew6
   replace hks := hks.Y ew6
   replace h2 := h2.Y ew6
   replace h3 := h3.Y ew6
   replace Lw := Lw.Y ew6
   replace hB := ew6.z hB
   refine ⟨hS, ?_⟩
   refine a_bar 10 rfl (by kernel_rfl) (by kernel_rfl) (oK fo73 rfl rfl rfl (canon_all _ s _ M _ _ (lR _) (Classical.choose_spec (shape_either c2)) hs Lw hzs) ?_)
   rintro vhcs w7 ⟨hcs, ew7⟩
   replace hS := hS.then ew7
   replace hE := ew7.bl hE hB
   replace ht := Rep.Y ht ew7
   replace hk := hk.Y ew7
   replace hs := Rep.Y hs ew7
   replace hks := hks.Y ew7
   replace h2 := h2.Y ew7
   replace h3 := h3.Y ew7
   replace hct := Rep.Y hct ew7
   replace Lw := Lw.Y ew7
   replace hB := ew7.z hB
   refine a_bar 11 rfl (by kernel_rfl) (by kernel_rfl) (oK fo72 rfl rfl rfl (kalike_spec _ _ _ _ _ _ hct hcs Lw) ?_)
   rintro _ w8 ⟨rfl, ew8⟩
   replace hS := hS.then ew8
   replace hE := ew8.bl hE hB
   replace ht := Rep.Y ht ew8
   replace hk := hk.Y ew8
   replace hs := Rep.Y hs ew8
   replace hks := hks.Y ew8
   replace h2 := h2.Y ew8
   replace h3 := h3.Y ew8
   replace hct := Rep.Y hct ew8
   replace hcs := Rep.Y hcs ew8
   replace Lw := Lw.Y ew8
   replace hB := ew8.z hB
   refine a_p 12 tK rfl rfl rfl rfl (by kernel_rfl) i3 hS ?_
   refine a_p 13 tK rfl rfl rfl rfl (by kernel_rfl) i3 hS ?_
   refine a_end (by kernel_rfl) ?_
   refine xS (cR (x1_ rfl rfl ?_))
   exact ⟨by simp [c1, c2], hE⟩
  refine aK 7 rfl rfl rfl (by kernel_rfl) i3 hS ?_
  refine aK 8 rfl rfl rfl (by kernel_rfl) i3 hS ?_
  refine aK 9 rfl rfl rfl (by kernel_rfl) i3 hS ?_
  refine aK 10 rfl rfl rfl (by kernel_rfl) i3 hS ?_
  refine aK 11 rfl rfl rfl (by kernel_rfl) i3 hS ?_
  refine a_p 12 tK rfl rfl rfl rfl (by kernel_rfl) i3 hS ?_
  refine a_p 13 tK rfl rfl rfl rfl (by kernel_rfl) i3 hS ?_
  refine a_end (by kernel_rfl) ?_
  refine xS (cR (x1_ rfl rfl ?_))
  exact ⟨by simp [c1, c2], hE⟩
 refine aK 3 rfl rfl rfl (by kernel_rfl) i3 hS ?_
 refine aK 4 rfl rfl rfl (by kernel_rfl) i3 hS ?_
 refine a_p 5 tK rfl rfl rfl rfl (by kernel_rfl) i3 hS ?_
 refine a_p 6 tK rfl rfl rfl rfl (by kernel_rfl) i3 hS ?_
 refine aK 7 rfl rfl rfl (by kernel_rfl) i3 hS ?_
 refine aK 8 rfl rfl rfl (by kernel_rfl) i3 hS ?_
 refine aK 9 rfl rfl rfl (by kernel_rfl) i3 hS ?_
 refine aK 10 rfl rfl rfl (by kernel_rfl) i3 hS ?_
 refine aK 11 rfl rfl rfl (by kernel_rfl) i3 hS ?_
 refine a_p 12 tK rfl rfl rfl rfl (by kernel_rfl) i3 hS ?_
 refine a_p 13 tK rfl rfl rfl rfl (by kernel_rfl) i3 hS ?_
 refine a_end (by kernel_rfl) ?_
 refine xS (cR (x1_ rfl rfl ?_))
 exact ⟨by simp [c1], hE⟩
open Go Rw Go.RowKit
set_option maxRecDepth 100000
theorem Canon_own (t : Ty) (M : Nat → Prop) (w : World) (v : Value) (ht : Rep.R M w v t) (hlow0 : Low M w) (hz : psz t ≤ 2000000) :
  Calls Try.prog 43 #[v] w (Ret fun r w' => OTy 25 w.heap.size w' (bif rightB t || rowB t then canonF t else (Ty.mk 0 ⟨#[]⟩ 0 [])) r (Plus NoM w w') ∧ Ext w w') := by
 have Lw := hlow0
 have hB := lR w.heap.size
 have hE := Below.refl w.heap.size w
 have hsub : ∀ b, M b → M b := fun _ h => h
 obtain ⟨kv, rfl, op, nm, n64, hk⟩ := tO ht
 refine cN (n := 9) Try.func43 rfl rfl rfl ?_
 refine q0 ?_
 refine lC (o_box rfl rfl rfl ?_)
 intro b1 w1 hb_b1 ew1 h1
 replace h1 : Box _ b1 25 [.int .u8 t.op, .string t.name, .int .i64 t.n, kv] := h1
 replace h1 := h1.at (nO Lw hb_b1)
 replace hE := ew1.bl hE hB
 replace ht := Rep.Y ht ew1
 replace hk := hk.Y ew1
 replace Lw := Lw.Y ew1
 replace hB := ew1.z hB
 refine lC (o_new tK rfl rfl rfl ?_)
 intro b2 w2 qb2 ew2 hb2
 have sw2 := Stp.add ew2 Lw hB (lQ qb2.symm) hb2.lt
 have h2 : MB w.heap.size (Rw.Add M b2) w2 b2 25 [.int .u8 0, .string ⟨#[]⟩, .int .i64 0, .slice none 0 0] := MB.mk' hb2 qb2 hB
 replace hE := hE.trans sw2.below
 replace ht := Rep.sp ht sw2
 replace hk := hk.sp sw2
 replace h1 := h1.sp sw2
 replace hsub := sw2.sb hsub
 replace Lw := sw2.low
 replace hB := sw2.z hB
 refine q1 (cS (q0 ?_))
 refine lC (oL tK (fun j v hv => h1.cell j v hv) rfl rfl rfl rfl rfl rfl ?_)
 refine lC (oK fo70 rfl rfl rfl (either_specB t _ _ _ ht Lw) ?_)
 rintro _ w3 ⟨rfl, ew3⟩
 replace h2 := h2.Y Lw hB ew3
 replace hE := ew3.bl hE hB
 replace ht := Rep.Y ht ew3
 replace hk := hk.Y ew3
 replace h1 := h1.Y ew3
 replace Lw := Lw.Y ew3
 replace hB := ew3.z hB
 refine lP 1 tK rfl (q1 ?_)
 refine c_ifB _ rfl (fun hr => ?_) (fun hr => ?_)
 ·refine q0 ?_
  refine lC (o_build (cells := [.int .u8 0, .string ⟨#[]⟩, .int .i64 0, .slice none 0 0]) (css := []) bd25 rfl rfl rfl rfl rfl ?_)
  refine lC (o_st tK h2.box rfl rfl rfl rfl (by intro u hu; simp [Value.cells] at hu; rcases hu with rfl | rfl | rfl | rfl <;> rfl) rfl rfl ?_)
  intro w4 hw4 qw4 bew4
  have uw4 : UpdB _ _ _ := ⟨qw4, bew4⟩
  have sw4 := uw4.sp h2.inM Lw h2.ge
  have frw4 := qw4.2
  replace hE := hE.trans sw4.below
  replace ht := Rep.sp ht sw4
  replace hk := hk.sp sw4
  replace h1 := h1.sp sw4
  replace hsub := sw4.sb hsub
  replace Lw := sw4.low
  replace hB := sw4.z hB
  replace h2 : MB w.heap.size _ w4 b2 _ [.int .u8 0, .string ⟨#[]⟩, .int .i64 0, .slice none 0 0] := ⟨hw4, h2.inM, h2.ge⟩
  refine q1 (cR (xR ?_))
  refine x_ret1s tK (fun j v hv => h2.cell j v hv) rfl rfl rfl rfl rfl ?_
  rw [show (rightB t || rowB t) = false from hr]
  exact ⟨oty_leaf (by decide) (by decide) ⟨by decide, by decide⟩, hE⟩
 refine cK (xS (q0 ?_))
 refine lC (oL tK (fun j v hv => h1.cell j v hv) rfl rfl rfl rfl rfl rfl ?_)
 have l_h2 := h2.lt
 refine lC (oK fo73 rfl rfl rfl (canon_own _ t _ _ _ _ (lR _) (Classical.choose_spec (shape_either hr)) ht Lw hz) ?_)
 rintro vc w5 ⟨hc, ew5⟩
 replace hc := hc.ge hB
 have hGl : ∀ c, Plus NoM w3 w5 c → w3.heap.size ≤ c ∧ c < w5.heap.size := fun c h => h.elim (fun h => h.elim) id
 generalize Plus NoM w3 w5 = G at hc hGl
 have sw5 := (Stp.Y ew5 Lw hB).more hGl
 replace h2 := h2.sp sw5 (ew5.block b2 h2.lt)
 replace hE := hE.trans sw5.below
 replace ht := Rep.sp ht sw5
 replace hk := hk.sp sw5
 replace h1 := h1.sp sw5
 replace hsub := sw5.sb hsub
 replace Lw := sw5.low
 replace hB := sw5.z hB
 have d_hc_h2 : ∀ x, G x → x ≠ b2 := fun x hx => by have := (hGl x hx).1; omega
 obtain ⟨kvc, usc, Hc, rfl, opc, nmc, n64c, hknc, hrc, hOc, hHc⟩ := oty_open hc
 refine lC (o_st tK h2.box rfl rfl rfl rfl hc.one rfl rfl ?_)
 intro w6 hw6 qw6 bew6
 have uw6 : UpdB _ _ _ := ⟨qw6, bew6⟩
 have sw6 := uw6.sp h2.inM Lw h2.ge
 have frw6 := qw6.2
 replace hc := hc.sp sw6 (fun x hx => frw6 x (hc.lt x hx).2 (d_hc_h2 x hx))
 replace hE := hE.trans sw6.below
 replace ht := Rep.sp ht sw6
 replace hk := hk.sp sw6
 replace h1 := h1.sp sw6
 replace hsub := sw6.sb hsub
 replace Lw := sw6.low
 replace hB := sw6.z hB
 replace h2 : MB w.heap.size _ w6 b2 _ [.int .u8 (canonF t).op, .string (canonF t).name, .int .i64 (canonF t).n, kvc] := ⟨hw6, h2.inM, h2.ge⟩
 refine q1 (cR ?_)
 refine x_ret1s tK (fun j v hv => h2.cell j v hv) rfl rfl rfl rfl rfl ?_
 rw [show (rightB t || rowB t) = true from hr]
 exact ⟨hc.mono (fun c h => .inr (hc.lt c h)) (fun c h => h.elim (fun h => h.elim) id), hE⟩
end Go.Proofs.Ytpoahmeacjggfaa
namespace Rw
/-- The first place of a number in a list; -1: none. -/
def atOf (l : List Int) (n : Int) : Int := match l.findIdx? (fun x => decide (x = n)) with
  | some i => (i : Int)
  | none => -1
theorem atOf_found {l : List Int} {n : Int} {k : Nat} (hk : k < l.length) (h : l[k] = n) (hno : ∀ j, j < k → l[j]? ≠ some n) : atOf l n = (k : Int) := by
  have : l.findIdx? (fun x => decide (x = n)) = some k := by
    rw [List.findIdx?_eq_some_iff_getElem]
    refine ⟨hk, by simpa using h, fun j hj => ?_⟩
    have := hno j hj
    rw [gE (by omega)] at this
    simpa using this
  simp [atOf, this]
/-- With s in the place of the variables of one op and number. -/
def putF (op n : Int) (s : Ty) : Ty → Ty
  | .mk o nm m l => bif decide (m = n) && decide (o = op) then s else .mk o nm m (l.map (putF op n s))
theorem putF_eq (op n : Int) (s t : Ty) : putF op n s t = bif decide (t.n = n) && decide (t.op = op) then s else .mk t.op t.name t.n (t.kids.map (putF op n s)) := by
  cases t; rw [putF]; rfl
theorem put_hit {op n : Int} {s t : Ty} (h1 : t.n = n) (h2 : t.op = op) : putF op n s t = s := by rw [putF_eq, h1, h2]; simp
theorem put_no {op n : Int} {s t : Ty} (h : ¬ (t.n = n ∧ t.op = op)) : putF op n s t = .mk t.op t.name t.n (t.kids.map (putF op n s)) := by
  rw [putF_eq]
  have : (decide (t.n = n) && decide (t.op = op)) = false := by
    cases e : (decide (t.n = n) && decide (t.op = op)) with
    | false => rfl
    | true => rw [Bool.and_eq_true, decide_eq_true_eq, decide_eq_true_eq] at e; exact absurd e h
  rw [this]; rfl
/-- The op of a variable of a sort. -/
def varOp (row : Bool) : Int := if row then 10 else 7
/-- Put: of what is right. -/
def PutF (t : Ty) (n : Int) (s : Ty) : Ty := bif (rightB t || rowB t) && (rightB s || rowB s) then putF (varOp (rowB s)) n s t else t
/-! ## Canonical forms are their own canonical forms -/
theorem spine_of {e : Ty} (he : e.op ≠ 11) : ∀ l : List Fld, spineF (ofF l e) = (l, e)
  | [] => by show spineF e = _; exact spine_no he
  | f :: l => by
    rw [ofF_cons, spine_yes rfl rfl, spine_of he l]
    rfl
theorem tail_op {t : Ty} : ∀ {c : UInt8}, shapeF t c = true → (spineF t).2.op ≠ 11 := by
  induction t using Ty.ind with
  | h t ih =>
    intro c hs
    by_cases ho : t.op = 11
    · obtain ⟨k, r, hk, h1, h2⟩ := shape_row hs ho
      rw [spine_yes ho hk]
      exact ih r (by rw [hk]; simp) h2
    · rw [spine_no ho]; exact ho
theorem spine_ne {t : Ty} {c : UInt8} (hs : shapeF t c = true) (ho : t.op = 11) : (spineF t).1 ≠ [] := by
  obtain ⟨k, r, hk, _, _⟩ := shape_row hs ho
  rw [spine_yes ho hk]; simp
theorem fieldsF_self {l : List Fld} (h : Srt l) : fieldsF l = l := (fieldsF_uniq h (StP.refl l)).symm
theorem srt_map {l : List Fld} (h : Srt l) : Srt (l.map canonFld) := by
  unfold Srt at h ⊢
  rw [List.pairwise_map]
  exact h
theorem canon_idem : ∀ (n : Nat) (t : Ty) (c : UInt8), psz t ≤ n → shapeF t c = true → canonF (canonF t) = canonF t
  | 0, t, _, h, _ => by have := psz_pos t; omega
  | n + 1, t, c, h, hs => by
    by_cases ho : t.op = 11
    · rw [canon_row ho]
      have he := tail_op hs
      have hs2 := shape_114 hs ho
      have hne : (fieldsF (spineF t).1).map canonFld ≠ [] := by
        intro e
        have := fieldsF_len (spineF t).1
        rw [List.map_eq_nil_iff] at e
        rw [e] at this
        exact spine_ne hs ho (List.eq_nil_of_length_eq_zero this.symm)
      have hop : (ofF ((fieldsF (spineF t).1).map canonFld) (spineF t).2).op = 11 := by
        cases e : (fieldsF (spineF t).1).map canonFld with
        | nil => exact absurd e hne
        | cons f l => rw [ofF_cons]; rfl
      rw [canon_row hop, spine_of he, fieldsF_self (srt_map (fieldsF_srt _)), List.map_map]
      congr 1
      refine List.map_congr_left fun f hf => ?_
      have h1 := fields_psz hf
      have h2 := spine_shape t hs2 f (fields_mem hf)
      show canonFld (canonFld f) = canonFld f
      unfold canonFld
      simp only
      rw [canon_idem n f.ty 116 (by omega) h2]
    · rw [canon_other ho, canon_other (show (Ty.mk t.op t.name t.n (t.kids.map canonF)).op ≠ 11 from ho)]
      show Ty.mk t.op t.name t.n ((t.kids.map canonF).map canonF) = _
      rw [List.map_map]
      congr 1
      refine List.map_congr_left fun x hx => ?_
      obtain ⟨i, hi, rfl⟩ := List.getElem_of_mem hx
      obtain ⟨d, hd⟩ := kid_shape hs hi
      have := psz_take hi
      exact canon_idem n _ d (by omega) hd
/-! ## Variables -/
def addV (l : List Int) (n : Int) : List Int := if n ∈ l then l else l ++ [n]
def varsTo (l : List Int) (ps : List Ty) : List Int := ps.foldl (fun l x => bif numB x.op then addV l x.n else l) l
/-- The variables of a type, by its canonical form. -/
def varsF (t : Ty) : List Int := varsTo [] (partsL (canonF t))
theorem varsTo_snoc (l : List Int) (ps : List Ty) (x : Ty) : varsTo l (ps ++ [x]) = bif numB x.op then addV (varsTo l ps) x.n else varsTo l ps := by simp [varsTo]
theorem varsTo_yes {l : List Int} {ps : List Ty} {x : Ty} (h : numB x.op = true) (hn : x.n ∉ varsTo l ps) : varsTo l (ps ++ [x]) = varsTo l ps ++ [x.n] := by rw [varsTo_snoc, h]; simp [addV, hn]
theorem varsTo_old {l : List Int} {ps : List Ty} {x : Ty} (hn : x.n ∈ varsTo l ps) : varsTo l (ps ++ [x]) = varsTo l ps := by
  rw [varsTo_snoc]
  cases numB x.op with
  | true => simp [addV, hn]
  | false => rfl
theorem varsTo_no {l : List Int} {ps : List Ty} {x : Ty} (h : numB x.op = false) : varsTo l (ps ++ [x]) = varsTo l ps := by rw [varsTo_snoc, h]; rfl
theorem addV_len (l : List Int) (n : Int) : (addV l n).length ≤ l.length + 1 := by unfold addV; split <;> simp
theorem varsTo_len (l : List Int) : ∀ ps : List Ty, (varsTo l ps).length ≤ l.length + ps.length := by
  intro ps
  induction ps generalizing l with
  | nil => simp [varsTo]
  | cons x r ih =>
    have h := ih (bif numB x.op then addV l x.n else l)
    have h2 : (bif numB x.op then addV l x.n else l).length ≤ l.length + 1 := by
      cases numB x.op with
      | true => exact addV_len l x.n
      | false => simp
    simp only [varsTo, List.foldl_cons, List.length_cons] at h ⊢
    omega
theorem addV_nodup {l : List Int} {n : Int} (h : l.Nodup) : (addV l n).Nodup := by
  unfold addV
  split
  · exact h
  · rename_i hn
    rw [List.nodup_append]
    exact ⟨h, by simp, fun x hx y hy => by simp at hy; subst hy; exact fun e => hn (e ▸ hx)⟩
theorem varsTo_nodup {l : List Int} (h : l.Nodup) : ∀ ps : List Ty, (varsTo l ps).Nodup := by
  intro ps
  induction ps generalizing l with
  | nil => exact h
  | cons x r ih =>
    show (varsTo (bif numB x.op then addV l x.n else l) r).Nodup
    refine ih ?_
    cases numB x.op with
    | true => exact addV_nodup h
    | false => exact h
theorem mem_addV {l : List Int} {n x : Int} : x ∈ addV l n ↔ x ∈ l ∨ x = n := by
  unfold addV
  split
  · rename_i h
    exact ⟨.inl, fun h' => h'.elim id (fun e => e ▸ h)⟩
  · simp
theorem mem_varsTo {l : List Int} {n : Int} : ∀ {ps : List Ty}, n ∈ varsTo l ps ↔ n ∈ l ∨ ∃ x ∈ ps, numB x.op = true ∧ x.n = n := by
  intro ps
  induction ps generalizing l with
  | nil => simp [varsTo]
  | cons x r ih =>
    show n ∈ varsTo (bif numB x.op then addV l x.n else l) r ↔ _
    rw [ih]
    cases hx : numB x.op with
    | true =>
      simp only [cond_true, mem_addV, List.mem_cons]
      constructor
      · rintro ((h | h) | ⟨y, hy, h1, h2⟩)
        · exact .inl h
        · exact .inr ⟨x, .inl rfl, hx, h.symm⟩
        · exact .inr ⟨y, .inr hy, h1, h2⟩
      · rintro (h | ⟨y, rfl | hy, h1, h2⟩)
        · exact .inl (.inl h)
        · exact .inl (.inr h2.symm)
        · exact .inr ⟨y, hy, h1, h2⟩
    | false =>
      simp only [cond_false, List.mem_cons]
      constructor
      · rintro (h | ⟨y, hy, h1, h2⟩)
        · exact .inl h
        · exact .inr ⟨y, .inr hy, h1, h2⟩
      · rintro (h | ⟨y, rfl | hy, h1, h2⟩)
        · exact .inl h
        · rw [hx] at h1; cases h1
        · exact .inr ⟨y, hy, h1, h2⟩
/-! ## Numbers anew -/
def renF (g : Int → Int) : Ty → Ty
  | .mk o s m l => .mk o s (bif numB o then g m else m) (l.map (renF g))
theorem renF_eq (g : Int → Int) (t : Ty) : renF g t = .mk t.op t.name (bif numB t.op then g t.n else t.n) (t.kids.map (renF g)) := by
  cases t; rw [renF]; rfl
theorem renF_congr {g h : Int → Int} (t : Ty) : (∀ x ∈ partsL t, numB x.op = true → g x.n = h x.n) → renF g t = renF h t := by
  induction t using Ty.ind with
  | h t ih =>
    intro e
    rw [renF_eq, renF_eq]
    have h1 : (bif numB t.op then g t.n else t.n) = bif numB t.op then h t.n else t.n := by
      cases hx : numB t.op with
      | true => exact e t (by rw [partsL_eq]; exact List.mem_cons_self) hx
      | false => rfl
    have h2 : t.kids.map (renF g) = t.kids.map (renF h) := List.map_congr_left fun x hx => ih x hx fun y hy hn => e y (by rw [partsL_eq]; exact List.mem_cons_of_mem _ (List.mem_flatMap.2 ⟨x, hx, hy⟩)) hn
    rw [h1, h2]
theorem psz_ren (g : Int → Int) (t : Ty) : psz (renF g t) = psz t := by
  induction t using Ty.ind with
  | h t ih =>
    rw [renF_eq, psz_eq, psz_eq t]
    congr 1
    exact pszs_map fun x hx => ih x hx
def tabTo (l : List Int) (i : Nat) : List (Int × Int) := ((l.take i).zipIdx).foldl (fun m p => putK m p.1 (p.2 : Int)) []
theorem tabTo_zero (l : List Int) : tabTo l 0 = [] := by simp [tabTo]
theorem tabTo_succ {l : List Int} {i : Nat} (hi : i < l.length) : tabTo l (i + 1) = putK (tabTo l i) l[i] (i : Int) := by
  unfold tabTo
  rw [List.take_succ_eq_append_getElem hi, List.zipIdx_append, List.foldl_append]
  simp only [List.zipIdx_cons, List.zipIdx_nil, List.foldl_cons, List.foldl_nil, Nat.zero_add]
  rw [List.length_take, Nat.min_eq_left (by omega)]
theorem tabTo_get {l : List Int} (hl : l.Nodup) : ∀ (i : Nat), i ≤ l.length → ∀ (j : Nat) (hj : j < l.length), getK (tabTo l i) l[j] = if j < i then some (j : Int) else none
  | 0, _, j, hj => by simp [tabTo, getK]
  | i + 1, hi, j, hj => by
    rw [tabTo_succ (by omega), getK_put, tabTo_get hl i (by omega) j hj]
    by_cases e : j = i
    · subst e; simp
    · have hne : l[j] ≠ l[i] := fun h => e ((List.getElem_inj hl).1 h)
      rw [if_neg hne]
      by_cases h : j < i
      · rw [if_pos h, if_pos (by omega)]
      · rw [if_neg h, if_neg (by omega)]
theorem tab_at {l : List Int} (hl : l.Nodup) {n : Int} (hn : n ∈ l) : (getK (tabTo l l.length) n).getD 0 = atOf l n := by
  obtain ⟨j, hj, rfl⟩ := List.getElem_of_mem hn
  rw [tabTo_get hl _ (lR _) j hj, if_pos hj]
  refine (atOf_found hj rfl fun k hk h => ?_).symm
  rw [gE (by omega)] at h
  have := (List.getElem_inj hl).1 (Option.some.inj h)
  omega
/-- The document's number of a type. -/
def numberF (t : Ty) : Ty := renF (atOf (varsF t)) (canonF t)
theorem number_tab (t : Ty) : renF (fun n => (getK (tabTo (varsF t) (varsF t).length) n).getD 0) (canonF t) = numberF t :=
  renF_congr _ fun x hx hn => tab_at (varsTo_nodup (by simp) _) (mem_varsTo.2 (.inr ⟨x, hx, hn, rfl⟩))
theorem tab_i64 {l : List Int} : ∀ (i : Nat), i ≤ l.length → i < 140737488355328 → ∀ n, -9223372036854775808 ≤ (getK (tabTo l i) n).getD 0 ∧ (getK (tabTo l i) n).getD 0 ≤ 9223372036854775807
  | 0, _, _, n => by simp [tabTo, getK]
  | i + 1, h, hs, n => by
    rw [tabTo_succ (by omega), getK_put]
    split
    · simp only [Option.getD_some]; omega
    · exact tab_i64 i (by omega) (by omega) n
/-! ## A canonical form is of the same sort -/
theorem shape_leaf11 {name : ByteArray} {k r : Ty} (hn : isWordB name = true) (hk : shapeF k 116 = true) (hr : shapeF r 114 = true) : shapeF (.mk 11 name 0 [k, r]) 114 = true := by
  refine shape_yes (t := .mk 11 name 0 [k, r]) (ks := ⟨#[116, 114]⟩) rfl rfl rfl (by simp [headOk, Ty.op, Ty.name, Ty.n, hn]) fun j x d hx hd => ?_
  simp only [Ty.kids] at hx
  rcases j with _ | _ | j
  · simp at hx hd; subst hx; subst hd; exact hk
  · simp at hx hd; subst hx; subst hd; exact hr
  · simp at hx
theorem shape_ofF {e : Ty} (he : shapeF e 114 = true) : ∀ l : List Fld, (∀ f ∈ l, isWordB f.name = true ∧ shapeF f.ty 116 = true) → shapeF (ofF l e) 114 = true
  | [], _ => he
  | f :: l, h => by
    rw [ofF_cons]
    have h1 := h f List.mem_cons_self
    exact shape_leaf11 h1.1 h1.2 (shape_ofF he l fun g hg => h g (List.mem_cons_of_mem _ hg))
theorem spine_words {t : Ty} : shapeF t 114 = true → (∀ f ∈ (spineF t).1, isWordB f.name = true ∧ shapeF f.ty 116 = true) ∧ shapeF (spineF t).2 114 = true := by
  induction t using Ty.ind with
  | h t ih =>
    intro hs
    by_cases ho : t.op = 11
    · obtain ⟨k, r, hk, h1, h2⟩ := shape_row hs ho
      rw [spine_yes ho hk]
      obtain ⟨h3, h4⟩ := ih r (by rw [hk]; simp) h2
      refine ⟨fun f hf => ?_, h4⟩
      rcases List.mem_cons.1 hf with rfl | hf
      · obtain ⟨_, _, _, _, hh, _⟩ := shape_pos hs
        refine ⟨?_, h1⟩
        unfold headOk at hh
        rw [ho] at hh
        simp at hh
        exact hh.1
      · exact h3 f hf
    · rw [spine_no ho]
      exact ⟨fun f hf => (by cases hf), hs⟩
theorem shape_canon : ∀ (n : Nat) (t : Ty) (c : UInt8), psz t ≤ n → shapeF t c = true → shapeF (canonF t) c = true
  | 0, t, _, h, _ => by have := psz_pos t; omega
  | n + 1, t, c, h, hs => by
    by_cases ho : t.op = 11
    · have hs2 := shape_114 hs ho
      have hc : c = 114 := by
        obtain ⟨_, _, _, _, _, h5⟩ := shape_pos hs
        rw [ho] at h5
        have hc : (c.toNat : Int) = 114 := by simpa using h5
        exact UInt8.toNat_inj.1 (by show c.toNat = 114; omega)
      subst hc
      rw [canon_row ho]
      obtain ⟨h1, h2⟩ := spine_words hs2
      refine shape_ofF h2 _ fun f hf => ?_
      obtain ⟨g, hg, rfl⟩ := List.mem_map.1 hf
      obtain ⟨h3, h4⟩ := h1 g (fields_mem hg)
      have := fields_psz hg
      exact ⟨h3, shape_canon n g.ty 116 (by omega) h4⟩
    · rw [canon_other ho]
      obtain ⟨ks, hk, hl, hall, hh, h5⟩ := shape_pos hs
      refine shape_yes (t := .mk t.op t.name t.n (t.kids.map canonF)) hk (by simpa [Ty.kids] using hl) h5 hh fun j x d hx hd => ?_
      replace hx : (t.kids.map canonF)[j]? = some x := hx
      rw [List.getElem?_map] at hx
      cases e : t.kids[j]? with
      | none => rw [e] at hx; simp at hx
      | some y =>
        rw [e] at hx
        simp at hx
        subst hx
        have hj := (List.getElem?_eq_some_iff.1 e).1
        have h6 := psz_take hj
        rw [gE hj] at e
        rw [Option.some.inj e] at h6
        exact shape_canon n y d (by omega) (hall j y d (by rw [gE hj, e]) hd)
/-! ## Without ? -/
end Rw
namespace Go.Proofs.Ytpoahmeacjggfaa
open Go Rw Go.RowKit
set_option maxRecDepth 100000
theorem each_spec (g : Nat) (caps : List Value) (B N : Nat) (I : (Nat → Prop) → List Ty → World → Prop) (hg : FnOk Try.prog g) (hx : ∀ M acc w w', I M acc w → Ext w w' → I M acc w') (hI : ∀ M acc w, I M acc w → Low M w ∧ B ≤ w.heap.size)
  (hdo : ∀ (M : Nat → Prop) acc w u x, acc.length < N → I M acc w → Rep.R M w u x → Calls Try.prog g ([u] ++ caps).toArray w (Ret fun r w' => r = .tuple #[] ∧ ∃ M', I M' (acc ++ [x]) w' ∧ Stp B M M' w w')) :
  ∀ (t : Ty) (M : Nat → Prop) (acc : List Ty) (w : World) (v : Value), acc.length + psz t ≤ N → I M acc w → Rep.R M w v t → Calls Try.prog 80 #[v, .func (.func g) #[] caps.toArray] w (Ret fun r w' => r = .tuple #[] ∧ ∃ M', I M' (acc ++ partsL t) w' ∧ Stp B M M' w w') := by
 refine Ty.ind fun t ih => ?_
 intro M acc w v hN hI0 ht
 obtain ⟨Lw, hB⟩ := hI _ _ _ hI0
 have hT : Stp B M M w w := Stp.refl Lw
 have hps := psz_eq t
 have hkl := len_psz t.kids
 obtain ⟨kv, rfl, op, nm, n64, hk⟩ := tO ht
 have hlt := hk.lt
 refine cN (n := 20) Try.func80 rfl rfl rfl ?_
 refine q0 ?_
 refine lC (o_box rfl rfl rfl ?_)
 intro b2 w1 hb_b2 ew1 h2
 replace h2 : Box _ b2 25 [.int .u8 t.op, .string t.name, .int .i64 t.n, kv] := h2
 replace h2 := h2.at (nO Lw hb_b2)
 replace hI0 := hx _ _ _ _ hI0 ew1
 replace hT := hT.then (Stp.Y ew1 Lw hB)
 replace ht := Rep.Y ht ew1
 replace hk := hk.Y ew1
 replace Lw := Lw.Y ew1
 replace hB := ew1.z hB
 refine q1 (q0 (lP 1 tK rfl ?_))
 refine lC (oL tK (fun j v hv => h2.cell j v hv) rfl rfl rfl rfl rfl rfl ?_)
 refine lC (o_dyn rfl hg rfl rfl rfl (hdo _ _ _ _ _ (by omega) hI0 ht) ?_)
 rintro _ w2 ⟨rfl, Mw2, hI0w2, sw2⟩
 replace hT := hT.then sw2
 replace ht := Rep.sp ht sw2
 replace hk := hk.sp sw2
 replace h2 := h2.sp sw2
 replace Lw := sw2.low
 replace hB := sw2.z hB
 replace hI0 := hI0w2
 refine q1 (q0 (lP 1 tK rfl ?_))
 refine lC (oD tK (h2.cell 3 _ rfl) rfl rfl rfl rfl rfl ?_)
 refine lC (o_len tK hk rfl rfl rfl rfl rfl ?_)
 refine lP 1 tK rfl (q1 (cB ?_))
 refine c_loop2 (X := Nat) (Y := Nat → Prop) (fun i M1 => [(1, .func (.func g) #[] caps.toArray), (10, kv), (11, .int .i64 (t.kids.length : Int)), (12, .int .i64 (i : Nat))]) (fun i M1 w' => i ≤ t.kids.length ∧ I M1 (acc ++ t :: (t.kids.take i).flatMap partsL) w' ∧ Sl M1 w' kv t.kids ∧ Stp B M M1 w w' ∧ Low M1 w' ∧ B ≤ w'.heap.size) (fun i M1 => t.kids.length - i) (0) (Mw2) (s4 rfl rfl rfl rfl) ?_ ?_
 ·exact ⟨Nat.zero_le _, hI0, hk, hT, Lw, hB⟩
 clear hk hI0 ht
 rintro i M1 w3 ⟨hi, hI0, hk, hT, Lw, hB⟩
 refine q0 (lP 1 tK rfl (q1 (cS ?_)))
 refine cP _ rfl (fun c1 => ?_) (fun c1 => ?_)
 ·refine cK (xS (cS (cB (q0 ?_))))
  have hik : i < t.kids.length := by omega
  have e3 := take_psz t.kids (i + 1)
  rw [show pszs (t.kids.take (i + 1)) = pszs (t.kids.take i) + psz t.kids[i] by unfold pszs; rw [take_step hik, List.length_append]; rfl] at e3
  refine lC (o_ixS tK hk (gE hik) rfl rfl rfl rfl rfl rfl rfl rfl rfl ?_)
  intro ebx eox eux hyx hX
  obtain ⟨kvx, rfl, opx, nmx, n64x, hkx⟩ := tO hyx
  replace hX : At M1 w3 ebx eox [.int .u8 t.kids[i].op, .string t.kids[i].name, .int .i64 t.kids[i].n, kvx] := hX
  refine lC (oL tK (fun j v hv => hX.cell j v hv) rfl rfl rfl rfl rfl rfl ?_)
  refine lC (o_new tK rfl rfl rfl ?_)
  intro b5 w4 qb5 ew4 hb5
  have nb5 := nO Lw qb5
  refine lC (o_st tK hb5 rfl rfl rfl rfl (Rep.one hyx) rfl rfl ?_)
  intro w5 h5 uw5 bew5
  have ew5 : Ext w3 w5 := ew4.trans (bew5 _ (lQ qb5.symm))
  replace hI0 := hx _ _ _ _ hI0 ew5
  replace hT := hT.then (Stp.Y ew5 Lw hB)
  replace hk := hk.Y ew5
  replace hyx := Rep.Y hyx ew5
  replace hkx := hkx.Y ew5
  replace hX := hX.Y ew5
  replace Lw := Lw.Y ew5
  replace hB := ew5.z hB
  replace h5 : Box w5 b5 25 [.int .u8 t.kids[i].op, .string t.kids[i].name, .int .i64 t.kids[i].n, kvx] := h5
  replace h5 := h5.at nb5
  refine q1 (cG ?_)
  refine lC (oL tK (fun j v hv => h5.cell j v hv) rfl rfl rfl rfl rfl rfl ?_)
  refine lP 1 tK rfl ?_
  have hal : (acc ++ t :: (t.kids.take i).flatMap partsL).length = acc.length + 1 + pszs (t.kids.take i) := by simp [pszs]; omega
  refine lC (oK fo80 rfl rfl rfl (ih _ (gM hik) _ _ _ _ (by omega) hI0 hyx) ?_)
  rintro _ w6 ⟨rfl, Mw6, hI0w6, sw6⟩
  replace hT := hT.then sw6
  replace hk := hk.sp sw6
  replace hyx := Rep.sp hyx sw6
  replace hkx := hkx.sp sw6
  replace hX := hX.sp sw6
  replace h5 := h5.sp sw6
  replace Lw := sw6.low
  replace hB := sw6.z hB
  replace hI0 := hI0w6
  refine q2 (xS (cG ?_))
  refine lC (o_ai rfl rfl rfl (by omega) rfl rfl ?_)
  refine lP 1 tK rfl (lN ?_)
  exact xN (i + 1) (Mw6) (s4 rfl rfl rfl (gN rfl (by omega))) ⟨by omega, by rw [take_step hik]; simpa using hI0, hk, hT, Lw, hB⟩ (by omega)
 refine c_exit (xE (xE (x_blkE ?_)))
 refine x_ret0n rfl ?_
 obtain rfl : i = t.kids.length := by omega
 rw [List.take_of_length_le (lR _), ← partsL_eq] at hI0
 exact ⟨rfl, _, hI0, hT⟩
/-- Between two parts: the variables so far. -/
def VI (B b1 b2 bm : Nat) (M : Nat → Prop) (acc : List Ty) (w : World) : Prop := ∃ v m, MB B M w b1 68 [.map (some bm)] ∧ MB B M w b2 46 [v] ∧ OM (κ := Int) (fun x : Bool => Value.bool x) B M w bm m ∧ OwnSl 3 B M w v (varsTo [] acc) ∧ (∀ n, (getK m n).getD false = decide (n ∈ varsTo [] acc)) ∧
 b1 ≠ b2 ∧ b1 ≠ bm ∧ b2 ≠ bm ∧ (∀ x, (v : Value).ownBlock = some x → x ≠ b1) ∧ (∀ x, (v : Value).ownBlock = some x → x ≠ b2) ∧ (∀ x, (v : Value).ownBlock = some x → x ≠ bm) ∧ Low M w ∧ B ≤ w.heap.size
theorem VI.Y {B b1 b2 bm : Nat} {M : Nat → Prop} {acc : List Ty} {w w' : World} (h : VI B b1 b2 bm M acc w) (e : Ext w w') : VI B b1 b2 bm M acc w' := by
 obtain ⟨v, m, h1, h2, hm, ho, hg, r1, r2, r3, r4, r5, r6, Lw, hB⟩ := h
 exact ⟨v, m, h1.Y Lw hB e, h2.Y Lw hB e, hm.Y Lw hB e, ho.Y Lw hB e, hg, r1, r2, r3, r4, r5, r6, Lw.Y e, Nat.le_trans hB e.size⟩
theorem varsDo_spec (B b1 b2 bm : Nat) (M : Nat → Prop) (acc : List Ty) (w : World) (v : Value) (t : Ty) (hN : acc.length < 2000000) (hI : VI B b1 b2 bm M acc w) (ht : Rep.R M w v t) :
  Calls Try.prog 81 #[v, .pointer (some ⟨b1, 0, none⟩), .pointer (some ⟨b2, 0, none⟩)] w (Ret fun r w' => r = .tuple #[] ∧ ∃ M', VI B b1 b2 bm M' (acc ++ [t]) w' ∧ Stp B M M' w w') := by
 obtain ⟨lv, m, h1, h2, hm, ho, hg, ne_h1_h2, ne_h1_hm, ne_h2_hm, d_ho_h1, d_ho_h2, d_ho_hm, Lw, hB⟩ := hI
 have hT : Stp B M M w w := Stp.refl Lw
 have hvl := varsTo_len [] acc
 simp only [List.length_nil, Nat.zero_add] at hvl
 obtain ⟨kv, rfl, op, nm, n64, hk⟩ := tO ht
 refine cN (n := 27) Try.func81 rfl rfl rfl ?_
 refine q0 ?_
 refine lC (o_box rfl rfl rfl ?_)
 intro b3 w1 hb_b3 ew1 h3
 replace h3 : Box _ b3 25 [.int .u8 t.op, .string t.name, .int .i64 t.n, kv] := h3
 replace h3 := h3.at (nO Lw hb_b3)
 replace hT := hT.then (Stp.Y ew1 Lw hB)
 replace h1 := h1.Y Lw hB ew1
 replace h2 := h2.Y Lw hB ew1
 replace hm := hm.Y Lw hB ew1
 replace ho := ho.Y Lw hB ew1
 replace ht := Rep.Y ht ew1
 replace hk := hk.Y ew1
 replace Lw := Lw.Y ew1
 replace hB := ew1.z hB
 refine q1 (q0 (lP 1 tK rfl ?_))
 refine lC (oD tK (h3.cell 0 _ rfl) rfl rfl rfl rfl rfl ?_)
 refine lP 2 tK rfl ?_
 refine lS 7 _ rfl (fun c1 => ?_) (fun c1 => ?_)
 ·refine lP 5 tK rfl ?_
  refine lC (oD tK (h1.cell 0 _ rfl) rfl rfl rfl rfl rfl ?_)
  refine lP 1 tK rfl ?_
  refine lC (oD tK (h3.cell 2 _ rfl) rfl rfl rfl rfl rfl ?_)
  refine lC (o_look (z := false) tK hm.map (k := t.n) rfl rfl rfl rfl ⟨_, Try.underlying3, rfl⟩ rfl rfl rfl rfl ?_)
  refine lP 2 tK rfl (q1 ?_)
  refine c_ifB _ rfl (fun c2 => ?_) (fun c2 => ?_)
  ·refine q0 ?_
   refine lC (oD tK (h1.cell 0 _ rfl) rfl rfl rfl rfl rfl ?_)
   refine lP 1 tK rfl ?_
   refine lC (oD tK (h3.cell 2 _ rfl) rfl rfl rfl rfl rfl ?_)
   refine lC (o_mupd tK hm.map (k := t.n) (v := true) rfl rfl rfl rfl rfl ⟨_, Try.underlying3, rfl⟩ rfl ?_)
   intro w2 hw2 qw2 bew2
   have uw2 : UpdB _ _ _ := ⟨qw2, bew2⟩
   have sw2 := uw2.sp hm.inM Lw hm.ge
   have frw2 := qw2.2
   replace hT := hT.then sw2
   replace h1 := h1.sp sw2 (frw2 b1 h1.lt ne_h1_hm)
   replace h2 := h2.sp sw2 (frw2 b2 h2.lt ne_h2_hm)
   replace ho := ho.sp sw2 (fun x hx => frw2 x (ho.lt x hx).2 (d_ho_hm x hx))
   replace ht := Rep.sp ht sw2
   replace hk := hk.sp sw2
   replace h3 := h3.sp sw2
   replace Lw := sw2.low
   replace hB := sw2.z hB
   replace hm : OM _ _ _ w2 _ (putK m t.n true) := ⟨hw2, hm.inM, hm.ge⟩
   refine q1 (cG ?_)
   refine lC (oD tK (h2.cell 0 _ rfl) rfl rfl rfl rfl rfl ?_)
   refine lP 1 tK rfl ?_
   refine lC (oD tK (h3.cell 2 _ rfl) rfl rfl rfl rfl rfl ?_)
   refine lC (o_bs tK rfl rfl rfl rfl rfl rfl rfl (sz1 rfl) rfl rfl rfl ?_)
   intro bw3 w3 qbw3 ew3 hbw3
   have nbw3 := nO Lw qbw3
   replace hT := hT.then (Stp.Y ew3 Lw hB)
   replace h1 := h1.Y Lw hB ew3
   replace h2 := h2.Y Lw hB ew3
   replace hm := hm.Y Lw hB ew3
   replace ho := ho.Y Lw hB ew3
   replace ht := Rep.Y ht ew3
   replace hk := hk.Y ew3
   replace h3 := h3.Y ew3
   replace Lw := Lw.Y ew3
   replace hB := ew3.z hB
   refine lC (o_app1 tK ho hbw3 nbw3 ⟨rfl, n64⟩ Lw hB rfl rfl rfl rfl rfl rfl rfl (by omega) (by show (_ + _) * 8 ≤ _; omega) rfl rfl ?_)
   intro vw4 w4 Mw4 hw4 sw4 frw4 blw4
   have zd_ho_h1 := d_ho_h1
   replace d_ho_h1 : ∀ x, (vw4 : Value).ownBlock = some x → x ≠ b1 := fun x hx => (blw4 x hx).elim (d_ho_h1 x) (fun h e => by have := h1.lt; omega)
   have zd_ho_h2 := d_ho_h2
   replace d_ho_h2 : ∀ x, (vw4 : Value).ownBlock = some x → x ≠ b2 := fun x hx => (blw4 x hx).elim (d_ho_h2 x) (fun h e => by have := h2.lt; omega)
   have zd_ho_hm := d_ho_hm
   replace d_ho_hm : ∀ x, (vw4 : Value).ownBlock = some x → x ≠ bm := fun x hx => (blw4 x hx).elim (d_ho_hm x) (fun h e => by have := hm.lt; omega)
   replace hT := hT.then sw4
   replace h1 := h1.sp sw4 (frw4 b1 h1.lt (fun e => zd_ho_h1 _ e.symm rfl))
   replace h2 := h2.sp sw4 (frw4 b2 h2.lt (fun e => zd_ho_h2 _ e.symm rfl))
   replace hm := hm.sp sw4 (frw4 bm hm.lt (fun e => zd_ho_hm _ e.symm rfl))
   replace ht := Rep.sp ht sw4
   replace hk := hk.sp sw4
   replace h3 := h3.sp sw4
   replace Lw := sw4.low
   replace hB := sw4.z hB
   replace ho := hw4
   clear hw4
   obtain ⟨av6, cv6, rfl, _⟩ := ho.val
   refine lC (o_st tK h2.box rfl rfl rfl rfl (by simp [Value.cells, Value.oneCell']) rfl rfl ?_)
   intro w5 hw5 qw5 bew5
   have uw5 : UpdB _ _ _ := ⟨qw5, bew5⟩
   have sw5 := uw5.sp h2.inM Lw h2.ge
   have frw5 := qw5.2
   replace hT := hT.then sw5
   replace h1 := h1.sp sw5 (frw5 b1 h1.lt ne_h1_h2)
   replace hm := hm.sp sw5 (frw5 bm hm.lt ne_h2_hm.symm)
   replace ho := ho.sp sw5 (fun x hx => frw5 x (ho.lt x hx).2 (d_ho_h2 x hx))
   replace ht := Rep.sp ht sw5
   replace hk := hk.sp sw5
   replace h3 := h3.sp sw5
   replace Lw := sw5.low
   replace hB := sw5.z hB
   replace h2 : MB B _ w5 b2 _ [(.slice av6 (varsTo [] acc ++ [t.n]).length cv6)] := ⟨hw5, h2.inM, h2.ge⟩
   refine lN ?_
   refine x_ret0n rfl ?_
   have hnm : numB t.op = true := by simp [numB, *]
   have hni : t.n ∉ varsTo [] acc := by
    intro h
    have h2 := hg t.n
    rw [dT h] at h2
    simp_all
   refine ⟨rfl, _, ⟨_, _, h1, h2, hm, by rw [varsTo_yes hnm hni]; exact ho, fun n => ?_, ne_h1_h2, ne_h1_hm, ne_h2_hm, d_ho_h1, d_ho_h2, d_ho_hm, Lw, hB⟩, hT⟩
   rw [getK_put, varsTo_yes hnm hni]
   by_cases e : n = t.n
   ·subst e; simp
   ·rw [if_neg e, hg n]; simp [e]
  refine cK ?_
  refine x_ret0n rfl ?_
  have hvs : varsTo [] (acc ++ [t]) = varsTo [] acc := by
   cases hnm : numB t.op with
   | false => exact varsTo_no hnm
   | true =>
    refine varsTo_old ?_
    have h2 := hg t.n
    unfold numB at hnm
    simp_all
  refine ⟨rfl, _, ⟨_, _, h1, h2, hm, by rw [hvs]; exact ho, fun n => by rw [hvs]; exact hg n, ne_h1_h2, ne_h1_hm, ne_h2_hm, d_ho_h1, d_ho_h2, d_ho_hm, Lw, hB⟩, hT⟩
 refine lP 1 tK rfl ?_
 refine lC (oD tK (h3.cell 0 _ rfl) rfl rfl rfl rfl rfl ?_)
 refine lP 3 tK rfl ?_
 refine lS 12 _ rfl (fun c3 => ?_) (fun c3 => ?_)
 ·refine lC (oD tK (h1.cell 0 _ rfl) rfl rfl rfl rfl rfl ?_)
  refine lP 1 tK rfl ?_
  refine lC (oD tK (h3.cell 2 _ rfl) rfl rfl rfl rfl rfl ?_)
  refine lC (o_look (z := false) tK hm.map (k := t.n) rfl rfl rfl rfl ⟨_, Try.underlying3, rfl⟩ rfl rfl rfl rfl ?_)
  refine lP 2 tK rfl (q1 ?_)
  refine c_ifB _ rfl (fun c4 => ?_) (fun c4 => ?_)
  ·refine q0 ?_
   refine lC (oD tK (h1.cell 0 _ rfl) rfl rfl rfl rfl rfl ?_)
   refine lP 1 tK rfl ?_
   refine lC (oD tK (h3.cell 2 _ rfl) rfl rfl rfl rfl rfl ?_)
   refine lC (o_mupd tK hm.map (k := t.n) (v := true) rfl rfl rfl rfl rfl ⟨_, Try.underlying3, rfl⟩ rfl ?_)
   intro w6 hw6 qw6 bew6
   have uw6 : UpdB _ _ _ := ⟨qw6, bew6⟩
   have sw6 := uw6.sp hm.inM Lw hm.ge
   have frw6 := qw6.2
   replace hT := hT.then sw6
   replace h1 := h1.sp sw6 (frw6 b1 h1.lt ne_h1_hm)
   replace h2 := h2.sp sw6 (frw6 b2 h2.lt ne_h2_hm)
   replace ho := ho.sp sw6 (fun x hx => frw6 x (ho.lt x hx).2 (d_ho_hm x hx))
   replace ht := Rep.sp ht sw6
   replace hk := hk.sp sw6
   replace h3 := h3.sp sw6
   replace Lw := sw6.low
   replace hB := sw6.z hB
   replace hm : OM _ _ _ w6 _ (putK m t.n true) := ⟨hw6, hm.inM, hm.ge⟩
   refine q1 (cG ?_)
   refine lC (oD tK (h2.cell 0 _ rfl) rfl rfl rfl rfl rfl ?_)
   refine lP 1 tK rfl ?_
   refine lC (oD tK (h3.cell 2 _ rfl) rfl rfl rfl rfl rfl ?_)
   refine lC (o_bs tK rfl rfl rfl rfl rfl rfl rfl (sz1 rfl) rfl rfl rfl ?_)
   intro bw7 w7 qbw7 ew7 hbw7
   have nbw7 := nO Lw qbw7
   replace hT := hT.then (Stp.Y ew7 Lw hB)
   replace h1 := h1.Y Lw hB ew7
   replace h2 := h2.Y Lw hB ew7
   replace hm := hm.Y Lw hB ew7
   replace ho := ho.Y Lw hB ew7
   replace ht := Rep.Y ht ew7
   replace hk := hk.Y ew7
   replace h3 := h3.Y ew7
   replace Lw := Lw.Y ew7
   replace hB := ew7.z hB
   refine lC (o_app1 tK ho hbw7 nbw7 ⟨rfl, n64⟩ Lw hB rfl rfl rfl rfl rfl rfl rfl (by omega) (by show (_ + _) * 8 ≤ _; omega) rfl rfl ?_)
   intro vw8 w8 Mw8 hw8 sw8 frw8 blw8
   have zd_ho_h1 := d_ho_h1
   replace d_ho_h1 : ∀ x, (vw8 : Value).ownBlock = some x → x ≠ b1 := fun x hx => (blw8 x hx).elim (d_ho_h1 x) (fun h e => by have := h1.lt; omega)
   have zd_ho_h2 := d_ho_h2
   replace d_ho_h2 : ∀ x, (vw8 : Value).ownBlock = some x → x ≠ b2 := fun x hx => (blw8 x hx).elim (d_ho_h2 x) (fun h e => by have := h2.lt; omega)
   have zd_ho_hm := d_ho_hm
   replace d_ho_hm : ∀ x, (vw8 : Value).ownBlock = some x → x ≠ bm := fun x hx => (blw8 x hx).elim (d_ho_hm x) (fun h e => by have := hm.lt; omega)
   replace hT := hT.then sw8
   replace h1 := h1.sp sw8 (frw8 b1 h1.lt (fun e => zd_ho_h1 _ e.symm rfl))
   replace h2 := h2.sp sw8 (frw8 b2 h2.lt (fun e => zd_ho_h2 _ e.symm rfl))
   replace hm := hm.sp sw8 (frw8 bm hm.lt (fun e => zd_ho_hm _ e.symm rfl))
   replace ht := Rep.sp ht sw8
   replace hk := hk.sp sw8
   replace h3 := h3.sp sw8
   replace Lw := sw8.low
   replace hB := sw8.z hB
   replace ho := hw8
   clear hw8
   obtain ⟨av6, cv6, rfl, _⟩ := ho.val
   refine lC (o_st tK h2.box rfl rfl rfl rfl (by simp [Value.cells, Value.oneCell']) rfl rfl ?_)
   intro w9 hw9 qw9 bew9
   have uw9 : UpdB _ _ _ := ⟨qw9, bew9⟩
   have sw9 := uw9.sp h2.inM Lw h2.ge
   have frw9 := qw9.2
   replace hT := hT.then sw9
   replace h1 := h1.sp sw9 (frw9 b1 h1.lt ne_h1_h2)
   replace hm := hm.sp sw9 (frw9 bm hm.lt ne_h2_hm.symm)
   replace ho := ho.sp sw9 (fun x hx => frw9 x (ho.lt x hx).2 (d_ho_h2 x hx))
   replace ht := Rep.sp ht sw9
   replace hk := hk.sp sw9
   replace h3 := h3.sp sw9
   replace Lw := sw9.low
   replace hB := sw9.z hB
   replace h2 : MB B _ w9 b2 _ [(.slice av6 (varsTo [] acc ++ [t.n]).length cv6)] := ⟨hw9, h2.inM, h2.ge⟩
   refine lN ?_
   refine x_ret0n rfl ?_
   have hnm : numB t.op = true := by simp [numB, *]
   have hni : t.n ∉ varsTo [] acc := by
    intro h
    have h2 := hg t.n
    rw [dT h] at h2
    simp_all
   refine ⟨rfl, _, ⟨_, _, h1, h2, hm, by rw [varsTo_yes hnm hni]; exact ho, fun n => ?_, ne_h1_h2, ne_h1_hm, ne_h2_hm, d_ho_h1, d_ho_h2, d_ho_hm, Lw, hB⟩, hT⟩
   rw [getK_put, varsTo_yes hnm hni]
   by_cases e : n = t.n
   ·subst e; simp
   ·rw [if_neg e, hg n]; simp [e]
  refine cK ?_
  refine x_ret0n rfl ?_
  have hvs : varsTo [] (acc ++ [t]) = varsTo [] acc := by
   cases hnm : numB t.op with
   | false => exact varsTo_no hnm
   | true =>
    refine varsTo_old ?_
    have h2 := hg t.n
    unfold numB at hnm
    simp_all
  refine ⟨rfl, _, ⟨_, _, h1, h2, hm, by rw [hvs]; exact ho, fun n => by rw [hvs]; exact hg n, ne_h1_h2, ne_h1_hm, ne_h2_hm, d_ho_h1, d_ho_h2, d_ho_hm, Lw, hB⟩, hT⟩
 refine lP 6 tK rfl (q1 (c_ifF rfl (cK ?_)))
 refine x_ret0n rfl ?_
 have hvs : varsTo [] (acc ++ [t]) = varsTo [] acc := by
  cases hnm : numB t.op with
  | false => exact varsTo_no hnm
  | true =>
   refine varsTo_old ?_
   have h2 := hg t.n
   unfold numB at hnm
   simp_all
 refine ⟨rfl, _, ⟨_, _, h1, h2, hm, by rw [hvs]; exact ho, fun n => by rw [hvs]; exact hg n, ne_h1_h2, ne_h1_hm, ne_h2_hm, d_ho_h1, d_ho_h2, d_ho_hm, Lw, hB⟩, hT⟩
theorem kVars_spec (t : Ty) (M : Nat → Prop) (w : World) (v : Value) (ht : Rep.R M w v t) (hlow0 : Low M w) (hz : psz t ≤ 2000000) :
  Calls Try.prog 45 #[v] w (Ret fun r w' => Sl M w' r (bif rightB t || rowB t then varsF t else []) ∧ Ext w w') := by
 have Lw := hlow0
 have hB := lR w.heap.size
 have hE := Below.refl w.heap.size w
 have hsub : ∀ b, M b → M b := fun _ h => h
 obtain ⟨kv, rfl, op, nm, n64, hk⟩ := tO ht
 refine cN (n := 14) Try.func45 rfl rfl rfl ?_
 refine q0 ?_
 refine lC (o_box rfl rfl rfl ?_)
 intro b1 w1 hb_b1 ew1 h1
 replace h1 : Box _ b1 25 [.int .u8 t.op, .string t.name, .int .i64 t.n, kv] := h1
 replace h1 := h1.at (nO Lw hb_b1)
 replace hE := ew1.bl hE hB
 replace ht := Rep.Y ht ew1
 replace hk := hk.Y ew1
 replace Lw := Lw.Y ew1
 replace hB := ew1.z hB
 refine lP 1 tK rfl (q1 (cS (q0 ?_)))
 refine lC (oL tK (fun j v hv => h1.cell j v hv) rfl rfl rfl rfl rfl rfl ?_)
 refine lC (oK fo70 rfl rfl rfl (either_specB t _ _ _ ht Lw) ?_)
 rintro _ w2 ⟨rfl, ew2⟩
 replace hE := ew2.bl hE hB
 replace ht := Rep.Y ht ew2
 replace hk := hk.Y ew2
 replace h1 := h1.Y ew2
 replace Lw := Lw.Y ew2
 replace hB := ew2.z hB
 refine lP 1 tK rfl (q1 ?_)
 refine c_ifB _ rfl (fun hr => ?_) (fun hr => ?_)
 ·refine q0 (lP 1 tK rfl (q1 (cR (xR (x1_ rfl rfl ?_)))))
  exact ⟨by rw [show (rightB t || rowB t) = false from hr]; exact sl_nil, hE⟩
 refine cK (xS (q0 ?_))
 refine lC (o_new tK rfl rfl rfl ?_)
 intro b3 w3 qb3 ew3 hb3
 have sw3 := Stp.add ew3 Lw hB (lQ qb3.symm) hb3.lt
 have h3 : MB w.heap.size (Rw.Add M b3) w3 b3 46 [.slice none 0 0] := MB.mk' hb3 qb3 hB
 replace hE := hE.trans sw3.below
 replace ht := Rep.sp ht sw3
 replace hk := hk.sp sw3
 replace h1 := h1.sp sw3
 replace hsub := sw3.sb hsub
 replace Lw := sw3.low
 replace hB := sw3.z hB
 refine q1 (q0 ?_)
 refine lC (o_mkmap (κ := Int) (ν := Bool) (va := (fun x : Bool => Value.bool x)) rfl rfl ?_)
 intro bm w4 qbm ew4 ltbm hbm
 have ne_h3_hm : b3 ≠ bm := by have := h3.lt; omega
 have sw4 := Stp.add ew4 Lw hB (lQ qbm.symm) ltbm
 have hm : OM (κ := Int) (fun x : Bool => Value.bool x) w.heap.size (Rw.Add (Rw.Add M b3) bm) w4 bm [] := OM.mk' hbm qbm hB
 replace h3 := h3.sp sw4 (ew4.block b3 h3.lt)
 replace hE := hE.trans sw4.below
 replace ht := Rep.sp ht sw4
 replace hk := hk.sp sw4
 replace h1 := h1.sp sw4
 replace hsub := sw4.sb hsub
 replace Lw := sw4.low
 replace hB := sw4.z hB
 refine lC (o_new tK rfl rfl rfl ?_)
 intro b4 w5 qb4 ew5 hb4
 have ne_h3_h4 : b3 ≠ b4 := by have := h3.lt; omega
 have ne_hm_h4 : bm ≠ b4 := by have := hm.lt; omega
 have sw5 := Stp.add ew5 Lw hB (lQ qb4.symm) hb4.lt
 have h4 : MB w.heap.size (Rw.Add (Rw.Add (Rw.Add M b3) bm) b4) w5 b4 68 [.map none] := MB.mk' hb4 qb4 hB
 replace h3 := h3.sp sw5 (ew5.block b3 h3.lt)
 replace hm := hm.sp sw5 (ew5.block bm hm.lt)
 replace hE := hE.trans sw5.below
 replace ht := Rep.sp ht sw5
 replace hk := hk.sp sw5
 replace h1 := h1.sp sw5
 replace hsub := sw5.sb hsub
 replace Lw := sw5.low
 replace hB := sw5.z hB
 refine lC (o_st tK h4.box rfl rfl rfl rfl (by intro u hu; simp [Value.cells] at hu; subst hu; rfl) rfl rfl ?_)
 intro w6 hw6 qw6 bew6
 have uw6 : UpdB _ _ _ := ⟨qw6, bew6⟩
 have sw6 := uw6.sp h4.inM Lw h4.ge
 have frw6 := qw6.2
 replace h3 := h3.sp sw6 (frw6 b3 h3.lt ne_h3_h4)
 replace hm := hm.sp sw6 (frw6 bm hm.lt ne_hm_h4)
 replace hE := hE.trans sw6.below
 replace ht := Rep.sp ht sw6
 replace hk := hk.sp sw6
 replace h1 := h1.sp sw6
 replace hsub := sw6.sb hsub
 replace Lw := sw6.low
 replace hB := sw6.z hB
 replace h4 : MB w.heap.size _ w6 b4 _ [.map (some bm)] := ⟨hw6, h4.inM, h4.ge⟩
 refine q1 (q0 ?_)
 refine lC (oL tK (fun j v hv => h1.cell j v hv) rfl rfl rfl rfl rfl rfl ?_)
 refine lC (oK fo73 rfl rfl rfl (canon_all _ t _ _ _ _ (lR _) (Classical.choose_spec (shape_either hr)) ht Lw hz) ?_)
 rintro vc w7 ⟨hc, ew7⟩
 replace h3 := h3.Y Lw hB ew7
 replace hm := hm.Y Lw hB ew7
 replace h4 := h4.Y Lw hB ew7
 replace hE := ew7.bl hE hB
 replace ht := Rep.Y ht ew7
 replace hk := hk.Y ew7
 replace h1 := h1.Y ew7
 replace Lw := Lw.Y ew7
 replace hB := ew7.z hB
 refine lP 1 tK rfl ?_
 have hpc := psz_canon _ t (lR _)
 have hvl0 := varsTo_len [] (partsL (canonF t))
 have hvl1 : (partsL (canonF t)).length = psz (canonF t) := rfl
 simp only [List.length_nil, Nat.zero_add] at hvl0
 have hV : VI w.heap.size b4 b3 bm (Rw.Add (Rw.Add (Rw.Add M b3) bm) b4) [] w7 := ⟨_, _, h4, h3, hm, own_nil, fun n => by simp [getK, varsTo], ne_h3_h4.symm, ne_hm_h4.symm, ne_h3_hm, fun x hx => by simp [Value.ownBlock] at hx, fun x hx => by simp [Value.ownBlock] at hx, fun x hx => by simp [Value.ownBlock] at hx, Lw, hB⟩
 refine lC (oK fo80 rfl rfl rfl (each_spec 81 [.pointer (some ⟨b4, 0, none⟩), .pointer (some ⟨b3, 0, none⟩)] w.heap.size 2000000 (VI w.heap.size b4 b3 bm) fo81 (fun _ _ _ _ h e => h.Y e) (fun _ _ _ h => by obtain ⟨v, m, h1, h2, hm, ho, hg, r1, r2, r3, r4, r5, r6, Lw, hB⟩ := h; exact ⟨Lw, hB⟩) (fun M acc w u x hN hI hu => varsDo_spec _ _ _ _ M acc w u x hN hI hu) (canonF t) _ [] _ _ (by simp only [List.length_nil]; omega) hV hc) ?_)
 rintro _ w8 ⟨rfl, Mw8, hV2, sw8⟩
 replace hE := hE.trans sw8.below
 replace ht := Rep.sp ht sw8
 replace hk := hk.sp sw8
 replace h1 := h1.sp sw8
 replace hc := Rep.sp hc sw8
 replace hsub := sw8.sb hsub
 replace Lw := sw8.low
 replace hB := sw8.z hB
 obtain ⟨lv, m2, h4, h3, hm, ho, _, _, _, _, _, _, _, _, _⟩ := hV2
 rw [List.nil_append] at ho
 refine q1 (q0 ?_)
 refine lC (oD tK (h3.cell 0 _ rfl) rfl rfl rfl rfl rfl ?_)
 refine lP 1 tK rfl (q1 (cR (x1_ rfl rfl ?_)))
 refine ⟨?_, hE⟩
 rw [show (rightB t || rowB t) = true from hr]
 exact ho.sl (by omega) hlow0 hsub
theorem renum_own : ∀ (t : Ty) (m : List (Int × Int)) (M : Nat → Prop) (w : World) (B : Nat) (v : Value) (F : Nat → Prop) (bm : Nat), OTy 25 B w t v F → (∀ c, F c → M c) → OM (κ := Int) (fun x : Int => Value.int .i64 x) B M w bm m → ¬ F bm → (∀ n, I64 ((getK m n).getD 0)) → Low M w → B ≤ w.heap.size → Calls Try.prog 79 #[v, .map (some bm)] w (Ret fun r w' => ∃ M' F', OTy 25 B w' (renF (fun n => (getK m n).getD 0) t) r F' ∧ (∀ c, F' c → M' c ∧ (F c ∨ w.heap.size ≤ c)) ∧ Stp B M M' w w' ∧ Kept w w' (Out F w)) := by
 refine Ty.ind fun t ih => ?_
 intro m M w B v F bm ht hF hm hbm hmI Lw hB
 have hT : Stp B M M w w := Stp.refl Lw
 have hfr : Kept w w (Out F w) := Kept.refl (fun x hx => hx.1)
 obtain ⟨kv, us, H, rfl, op, nm, n64, hkn, hr, hO, hH⟩ := oty_open ht
 have hkF := hr.inM
 replace hr := hr.keepV (M' := M) (fun b hb => hF b (hr.inM b hb)) (fun _ _ _ _ _ => rfl)
 have hF1 : ∀ c, H c → M c := fun c hc => hF c (hH c hc).1
 have hFn : ∀ c, H c → F c ∨ w.heap.size ≤ c := fun c hc => .inl (hH c hc).1
 have hul := hO.len
 have dd_hr_hO : ∀ x y, kv.ownBlock = some x → H y → x ≠ y := fun x y hx hy e => (hH y hy).2 (e ▸ hx)
 have dd_hr_hfr : ∀ x y, kv.ownBlock = some x → Out F w y → x ≠ y := fun x y hx hy e => hy.2 (e ▸ hkF x hx)
 have d_hr_hm : ∀ x, kv.ownBlock = some x → x ≠ bm := fun x hx e => hbm (e ▸ hkF x hx)
 have d_hO_hm : ∀ x, H x → x ≠ bm := fun x hx e => hbm (e ▸ (hH x hx).1)
 have ne_hm0 : bm < w.heap.size := hm.lt
 refine cN (n := 37) Try.func79 rfl rfl rfl ?_
 refine q0 ?_
 refine lC (o_box rfl rfl rfl ?_)
 intro b2 w1 qb2 ew1 hb2
 have d_hr_h2 : ∀ x, (kv : Value).ownBlock = some x → x ≠ b2 := fun x hx => by have := (hr.lt x hx).2; omega
 have d_hO_h2 : ∀ x, H x → x ≠ b2 := fun x hx => by have := (hO.lt x hx).2; omega
 have d_hfr_h2 : ∀ x, (Out F w) x → x ≠ b2 := fun x hx => by have := (hfr.lt x hx).2; omega
 have ne_hm_h2 : bm ≠ b2 := by have := hm.lt; omega
 have sw1 := Stp.add ew1 Lw hB (lQ qb2.symm) hb2.lt
 have h2 : MB B (Rw.Add M b2) w1 b2 25 [.int .u8 t.op, .string t.name, .int .i64 t.n, kv] := MB.mk' hb2 qb2 hB
 replace hT := hT.then sw1
 replace hr := hr.sp sw1 (fun x hx => ew1.block x (hr.lt x hx).2)
 replace hO := hO.sp sw1 (fun x hx => ew1.block x (hO.lt x hx).2)
 replace hfr := hfr.sp sw1 (fun x hx => ew1.block x (hfr.lt x hx).2)
 replace hm := hm.sp sw1 (ew1.block bm hm.lt)
 replace hF1 := fun b h => sw1.sub b (hF1 b h)
 replace Lw := sw1.low
 replace hB := sw1.z hB
 refine lC (o_new tK rfl rfl rfl ?_)
 intro b4 w2 qb4 ew2 hb4
 have d_hr_h4 : ∀ x, (kv : Value).ownBlock = some x → x ≠ b4 := fun x hx => by have := (hr.lt x hx).2; omega
 have d_hO_h4 : ∀ x, H x → x ≠ b4 := fun x hx => by have := (hO.lt x hx).2; omega
 have d_hfr_h4 : ∀ x, (Out F w) x → x ≠ b4 := fun x hx => by have := (hfr.lt x hx).2; omega
 have ne_hm_h4 : bm ≠ b4 := by have := hm.lt; omega
 have ne_h2_h4 : b2 ≠ b4 := by have := h2.lt; omega
 have sw2 := Stp.add ew2 Lw hB (lQ qb4.symm) hb4.lt
 have h4 : MB B (Rw.Add (Rw.Add M b2) b4) w2 b4 25 [.int .u8 0, .string ⟨#[]⟩, .int .i64 0, .slice none 0 0] := MB.mk' hb4 qb4 hB
 replace hT := hT.then sw2
 replace hr := hr.sp sw2 (fun x hx => ew2.block x (hr.lt x hx).2)
 replace hO := hO.sp sw2 (fun x hx => ew2.block x (hO.lt x hx).2)
 replace hfr := hfr.sp sw2 (fun x hx => ew2.block x (hfr.lt x hx).2)
 replace hm := hm.sp sw2 (ew2.block bm hm.lt)
 replace h2 := h2.sp sw2 (ew2.block b2 h2.lt)
 replace hF1 := fun b h => sw2.sub b (hF1 b h)
 replace Lw := sw2.low
 replace hB := sw2.z hB
 refine q1 (cS (q0 (lP 1 tK rfl ?_)))
 refine lC (oD tK (h2.cell 0 _ rfl) rfl rfl rfl rfl rfl ?_)
 refine lP 2 tK rfl ?_
 refine lS 10 _ rfl (fun c1 => ?_) (fun c1 => ?_)
 ·refine lP 4 tK rfl (q1 (cI rfl (cG (lP 2 tK rfl ?_))))
  refine lC (oD tK (h2.cell 2 _ rfl) rfl rfl rfl rfl rfl ?_)
  refine lC (o_look (z := 0) tK hm.map (k := t.n) rfl rfl rfl rfl ⟨_, Try.underlying3, rfl⟩ rfl rfl rfl rfl ?_)
  refine lP 1 tK rfl ?_
  refine lC (o_st tK h2.box rfl rfl rfl rfl (by simp [Value.cells, Value.oneCell']) rfl rfl ?_)
  intro w3 hw3 qw3 bew3
  have uw3 : UpdB _ _ _ := ⟨qw3, bew3⟩
  have sw3 := uw3.sp h2.inM Lw h2.ge
  have frw3 := qw3.2
  replace hT := hT.then sw3
  replace hr := hr.sp sw3 (fun x hx => frw3 x (hr.lt x hx).2 (d_hr_h2 x hx))
  replace hO := hO.sp sw3 (fun x hx => frw3 x (hO.lt x hx).2 (d_hO_h2 x hx))
  replace hfr := hfr.sp sw3 (fun x hx => frw3 x (hfr.lt x hx).2 (d_hfr_h2 x hx))
  replace hm := hm.sp sw3 (frw3 bm hm.lt ne_hm_h2)
  replace h4 := h4.sp sw3 (frw3 b4 h4.lt ne_h2_h4.symm)
  replace hF1 := fun b h => sw3.sub b (hF1 b h)
  replace Lw := sw3.low
  replace hB := sw3.z hB
  replace h2 : MB B _ w3 b2 _ [.int .u8 t.op, .string t.name, .int .i64 ((getK m t.n).getD 0), kv] := ⟨hw3, h2.inM, h2.ge⟩
  refine q1 (cS (q0 (lP 1 tK rfl ?_)))
  refine lC (oD tK (h2.cell 3 _ rfl) rfl rfl rfl rfl rfl ?_)
  refine lC (o_lenO tK hr rfl rfl rfl rfl rfl ?_)
  refine lP 1 tK rfl (q1 (cB ?_))
  refine c_loop4 (X := Nat) (Y := List (VN 3)) (Z := Nat → Prop) (U := Nat → Prop) (fun i us M1 F1 => [(1, .map (some bm)), (2, .pointer (some ⟨b2, 0, none⟩)), (4, .pointer (some ⟨b4, 0, none⟩)), (21, kv), (22, .int .i64 (t.kids.length : Int)), (23, .int .i64 (i : Nat))]) (fun i us M1 F1 w' => i ≤ t.kids.length ∧ OwnSl 25 B M1 w' kv us ∧ OTs 25 B w' us (mapTo (renF (fun n => (getK m n).getD 0)) t.kids i) F1 ∧ (∀ c, F1 c → M1 c) ∧ (∀ c, F1 c → F c ∨ w.heap.size ≤ c) ∧ Kept w w' (Out F w) ∧ Stp B M M1 w w' ∧ Low M1 w' ∧ B ≤ w'.heap.size ∧ MB B M1 w' b4 25 [.int .u8 0, .string ⟨#[]⟩, .int .i64 0, .slice none 0 0] ∧ MB B M1 w' b2 25 [.int .u8 t.op, .string t.name, .int .i64 ((getK m t.n).getD 0), kv] ∧ OM (κ := Int) (fun x : Int => Value.int .i64 x) B M1 w' bm m ∧ (∀ x y, (kv : Value).ownBlock = some x → F1 y → x ≠ y) ∧ (∀ x y, (kv : Value).ownBlock = some x → (Out F w) y → x ≠ y) ∧ (∀ x, (kv : Value).ownBlock = some x → x ≠ bm) ∧ (∀ x, F1 x → x ≠ bm) ∧ (∀ x, (kv : Value).ownBlock = some x → x ≠ b2) ∧ (∀ x, F1 x → x ≠ b2) ∧ (∀ x, (Out F w) x → x ≠ b2) ∧ (∀ x, (kv : Value).ownBlock = some x → x ≠ b4) ∧ (∀ x, F1 x → x ≠ b4) ∧ (∀ x, (Out F w) x → x ≠ b4)) (fun i us M1 F1 => t.kids.length - i) (0) (us) ((Rw.Add (Rw.Add M b2) b4)) (H) (s6 rfl rfl rfl rfl (gN rfl (by omega)) rfl) ?_ ?_
  ·refine ⟨Nat.zero_le _, ?_⟩
   rw [mapTo_zero]
   exact ⟨hr, hO, hF1, hFn, hfr, hT, Lw, hB, h4, h2, hm, dd_hr_hO, dd_hr_hfr, d_hr_hm, d_hO_hm, d_hr_h2, d_hO_h2, d_hfr_h2, d_hr_h4, d_hO_h4, d_hfr_h4⟩
  clear hF1 hFn hfr hT dd_hr_hO dd_hr_hfr d_hr_hm d_hO_hm d_hr_h2 d_hO_h2 d_hfr_h2 d_hr_h4 d_hO_h4 d_hfr_h4 hul
  rintro i us M1 F1 w4 ⟨hi, hr, hO, hF1, hFn, hfr, hT, Lw, hB, h4, h2, hm, dd_hr_hO, dd_hr_hfr, d_hr_hm, d_hO_hm, d_hr_h2, d_hO_h2, d_hfr_h2, d_hr_h4, d_hO_h4, d_hfr_h4⟩
  have hul := hO.len
  rw [mapTo_len] at hul
  refine q0 (lP 1 tK rfl (q1 (cS ?_)))
  refine cP _ rfl (fun c2 => ?_) (fun c2 => ?_)
  ·refine cK (xS (cS (cB (q0 (lP 1 tK rfl ?_)))))
   have hik : i < t.kids.length := by omega
   obtain ⟨⟨uv⟩, G, hui, hx, hGF, hOh⟩ := hO.take (mapTo_get hik)
   refine lC (o_ixO tK hr hui rfl rfl rfl rfl rfl rfl rfl rfl rfl ?_)
   intro ebx eux hobx hRx hX
   obtain ⟨e0, _⟩ := hRx
   replace e0 : eux = uv := e0
   subst e0
   obtain ⟨kvx, usx, Hx, rfl, opx, nmx, n64x, hknx, hrx, hOx, hHx⟩ := oty_open hx
   replace hX : OAt _ _ _ [.int .u8 t.kids[i].op, .string t.kids[i].name, .int .i64 t.kids[i].n, kvx] := hX
   refine lC (oL tK (fun j v hv => hX.cell j v hv) rfl rfl rfl rfl rfl rfl ?_)
   refine lC (o_new tK rfl rfl rfl ?_)
   intro b6 w5 qb6 ew5 hb6
   have nb6 := nO Lw qb6
   refine lP 1 tK rfl ?_
   refine lC (o_st tK hb6 rfl rfl rfl rfl hx.one rfl rfl ?_)
   intro w6 h6 uw6 bew6
   have ew6 : Ext w4 w6 := ew5.trans (bew6 _ (lQ qb6.symm))
   replace hT := hT.then (Stp.Y ew6 Lw hB)
   replace hr := hr.Y Lw hB ew6
   replace hfr := hfr.Y Lw hB ew6
   replace h4 := h4.Y Lw hB ew6
   replace h2 := h2.Y Lw hB ew6
   replace hm := hm.Y Lw hB ew6
   replace hOh := hOh.Y Lw hB ew6
   replace hx := hx.Y Lw hB ew6
   replace Lw := Lw.Y ew6
   replace hB := ew6.z hB
   replace h6 : Box w6 b6 25 [.int .u8 t.kids[i].op, .string t.kids[i].name, .int .i64 t.kids[i].n, kvx] := h6
   replace h6 := h6.at nb6
   refine q1 ?_
   refine a_beg (Sof2 B M1 b2) rfl ?_
   intro w7 ew7
   replace hT := hT.then (Stp.Y ew7 Lw hB)
   replace hr := hr.Y Lw hB ew7
   replace hfr := hfr.Y Lw hB ew7
   replace h4 := h4.Y Lw hB ew7
   replace h2 := h2.Y Lw hB ew7
   replace hm := hm.Y Lw hB ew7
   replace hOh := hOh.Y Lw hB ew7
   replace hx := hx.Y Lw hB ew7
   replace h6 := h6.Y ew7
   replace Lw := Lw.Y ew7
   replace hB := ew7.z hB
   have hS : Stp B M1 M1 w7 w7 := Stp.refl Lw
   have D_h4 := h4.box
   have D_h2 := h2.box
   have D_h6 := h6
   refine a_p 0 tK rfl rfl rfl rfl (by kernel_rfl) i3 ⟨⟨_, hS⟩, h2.box.heap.trans D_h2.heap.symm⟩ ?_
   refine a_ld 1 tK (fun _ hs => (D_h2.so2 hs).cell 3 _ rfl) rfl rfl rfl rfl rfl rfl (by kernel_rfl) i3 ⟨⟨_, hS⟩, h2.box.heap.trans D_h2.heap.symm⟩ ?_
   refine a_p 2 tK rfl rfl rfl rfl (by kernel_rfl) i3 ⟨⟨_, hS⟩, h2.box.heap.trans D_h2.heap.symm⟩ ?_
   refine a_lds 3 tK (fun _ hs j v hv => (D_h6.so2 hs).cell j v hv) rfl rfl rfl rfl rfl rfl rfl (by kernel_rfl) i3 ⟨⟨_, hS⟩, h2.box.heap.trans D_h2.heap.symm⟩ ?_
   refine a_p 4 tK rfl rfl rfl rfl (by kernel_rfl) i3 ⟨⟨_, hS⟩, h2.box.heap.trans D_h2.heap.symm⟩ ?_
   have l_h4 := h4.lt
   have l_h2 := h2.lt
   have l_hm := hm.lt
   have hsz0 := hT.upd.1
   have lH := hOh.lt
   have lr := hr.lt
   refine a_one 5 rfl (by kernel_rfl) (oK fo79 rfl rfl rfl (ih _ (gM hik) m _ _ B _ G bm hx (fun c hc => hF1 c (hGF c hc)) hm (fun g => d_hO_hm _ (hGF _ g) rfl) hmI Lw hB) ?_)
   rintro vq w8 ⟨Mw8, Fw8, hq, hq2, sw8, kw8⟩
   have frw8 : ∀ x, x < w7.heap.size → ¬ G x → w8.heap[x]? = w7.heap[x]? := fun x hx hg => kw8.blk x ⟨hx, hg⟩
   replace hT := hT.then sw8
   replace hS := hS.then sw8
   replace hr := hr.sp sw8 (fun x hx => frw8 x (hr.lt x hx).2 (fun g => dd_hr_hO x x hx (hGF x g) rfl))
   replace hfr := hfr.sp sw8 (fun x hx => frw8 x (hfr.lt x hx).2 (fun g => (hFn x (hGF x g)).elim hx.2 (fun h => by have := hx.1; have := hfr.size; omega)))
   replace h4 := h4.sp sw8 (frw8 b4 h4.lt (fun g => d_hO_h4 _ (hGF _ g) rfl))
   replace h2 := h2.sp sw8 (frw8 b2 h2.lt (fun g => d_hO_h2 _ (hGF _ g) rfl))
   replace hm := hm.sp sw8 (frw8 bm hm.lt (fun g => d_hO_hm _ (hGF _ g) rfl))
   replace hOh := hOh.sp sw8 (fun c hc hn => frw8 c (hOh.lt c hc).2 hn)
   replace h6 := h6.sp sw8
   replace hF1 := fun b h => sw8.sub b (hF1 b h)
   replace Lw := sw8.low
   replace hB := sw8.z hB
   refine ⟨⟨⟨_, hS⟩, h2.box.heap.trans D_h2.heap.symm⟩, ?_⟩
   have hO := hOh.put hq (fun c hc => (hq2 c hc).2.elim .inl (fun h => .inr (fun hf => by have := (lH c hf).2; omega)))
   replace hF1 : ∀ c, F1 c ∨ Fw8 c → Mw8 c := fun c h => h.elim (hF1 c) (fun h => (hq2 c h).1)
   replace dd_hr_hO : ∀ x y, kv.ownBlock = some x → (F1 y ∨ Fw8 y) → x ≠ y := fun x y hx hy => hy.elim (dd_hr_hO x y hx) (fun h => (hq2 y h).2.elim (fun g => dd_hr_hO x y hx (hGF y g)) (fun h => by have := (lr x hx).2; omega))
   replace d_hO_h4 : ∀ x, (F1 x ∨ Fw8 x) → x ≠ b4 := fun x hx => hx.elim (d_hO_h4 x) (fun h => (hq2 x h).2.elim (fun g => d_hO_h4 x (hGF x g)) (fun h => by have := l_h4; omega))
   replace d_hO_h2 : ∀ x, (F1 x ∨ Fw8 x) → x ≠ b2 := fun x hx => hx.elim (d_hO_h2 x) (fun h => (hq2 x h).2.elim (fun g => d_hO_h2 x (hGF x g)) (fun h => by have := l_h2; omega))
   replace d_hO_hm : ∀ x, (F1 x ∨ Fw8 x) → x ≠ bm := fun x hx => hx.elim (d_hO_hm x) (fun h => (hq2 x h).2.elim (fun g => d_hO_hm x (hGF x g)) (fun h => by have := l_hm; omega))
   replace hFn : ∀ c, (F1 c ∨ Fw8 c) → F c ∨ w.heap.size ≤ c := fun c hc => hc.elim (hFn c) (fun h => (hq2 c h).2.elim (fun g => hFn c (hGF c g)) (fun h => .inr (by have := hsz0; omega)))
   refine a_ixO 6 tK hr hui rfl rfl rfl rfl rfl rfl rfl rfl rfl rfl (by kernel_rfl) i4 ⟨⟨_, hS⟩, h2.box.heap.trans D_h2.heap.symm⟩ ?_
   intro ebz euz hobz hRz hatz
   refine a_bar 7 rfl (by kernel_rfl) (by kernel_rfl) (o_stO tK hr hobz (by omega) hq.vn Lw rfl rfl rfl rfl rfl rfl ?_)
   intro w9 hw9 sw9 frw9
   replace hT := hT.then sw9
   replace hS := hS.then sw9
   replace hfr := hfr.sp sw9 (fun x hx => frw9 x (hfr.lt x hx).2 (fun e => dd_hr_hfr _ x hobz hx e.symm))
   replace h4 := h4.sp sw9 (frw9 b4 h4.lt (fun e => d_hr_h4 _ hobz e.symm))
   replace h2 := h2.sp sw9 (frw9 b2 h2.lt (fun e => d_hr_h2 _ hobz e.symm))
   replace hm := hm.sp sw9 (frw9 bm hm.lt (fun e => d_hr_hm _ hobz e.symm))
   replace hO := hO.sp sw9 (fun x hx => frw9 x (hO.lt x hx).2 (fun e => dd_hr_hO _ x hobz hx e.symm))
   replace h6 := h6.sp sw9
   replace hF1 := fun b h => sw9.sub b (hF1 b h)
   replace Lw := sw9.low
   replace hB := sw9.z hB
   replace hr := hw9
   clear hw9
   refine a_end (by kernel_rfl) ?_
   refine x_blk (xS (cG ?_))
   refine lC (o_ai rfl rfl rfl (by omega) rfl rfl ?_)
   refine lP 1 tK rfl (lN ?_)
   exact x_round4 (i + 1) (us.set i ⟨vq⟩) (Mw8) ((fun c => F1 c ∨ Fw8 c)) (s6 rfl rfl rfl rfl rfl rfl) ⟨by omega, hr, by rw [← mapTo_set hik]; exact hO, hF1, hFn, hfr, hT, Lw, hB, h4, h2, hm, dd_hr_hO, dd_hr_hfr, d_hr_hm, d_hO_hm, d_hr_h2, d_hO_h2, d_hfr_h2, d_hr_h4, d_hO_h4, d_hfr_h4⟩ (by omega)
  refine c_exit (xE (xE (x_blkE (xS (q0 ?_)))))
  refine lC (oL tK (fun j v hv => h2.cell j v hv) rfl rfl rfl rfl rfl rfl ?_)
  refine lC (o_st tK h4.box rfl rfl rfl rfl (own_ones hr) rfl rfl ?_)
  intro w10 hw10 qw10 bew10
  have uw10 : UpdB _ _ _ := ⟨qw10, bew10⟩
  have sw10 := uw10.sp h4.inM Lw h4.ge
  have frw10 := qw10.2
  replace hT := hT.then sw10
  replace hr := hr.sp sw10 (fun x hx => frw10 x (hr.lt x hx).2 (d_hr_h4 x hx))
  replace hO := hO.sp sw10 (fun x hx => frw10 x (hO.lt x hx).2 (d_hO_h4 x hx))
  replace hfr := hfr.sp sw10 (fun x hx => frw10 x (hfr.lt x hx).2 (d_hfr_h4 x hx))
  replace h2 := h2.sp sw10 (frw10 b2 h2.lt ne_h2_h4)
  replace hm := hm.sp sw10 (frw10 bm hm.lt ne_hm_h4)
  replace hF1 := fun b h => sw10.sub b (hF1 b h)
  replace Lw := sw10.low
  replace hB := sw10.z hB
  replace h4 : MB B _ w10 b4 _ [.int .u8 t.op, .string t.name, .int .i64 ((getK m t.n).getD 0), kv] := ⟨hw10, h4.inM, h4.ge⟩
  refine q1 (cR ?_)
  refine x_ret1s tK (fun j v hv => h4.cell j v hv) rfl rfl rfl rfl rfl ?_
  have hnb : numB t.op = true := by clear ih; simp [numB, *]
  have hn2 : I64 ((getK m t.n).getD 0) := hmI _
  obtain rfl : i = t.kids.length := by omega
  rw [mapTo_all (lR _)] at hO
  refine ⟨_, fun c => kv.ownBlock = some c ∨ F1 c, ?_, fun c hc => hc.elim (fun h => ⟨hr.inM c h, .inl (hkF c h)⟩) (fun h => ⟨hF1 c h, hFn c h⟩), hT, hfr⟩
  rw [renF_eq, hnb]
  exact oty_mk op nm hn2 (by simpa using hkn) (fun c hc => hc.elim (hr.lt c) (hO.lt c)) (hr.keepV (fun b hb => .inl hb) (fun _ _ _ _ _ => rfl)) hO (fun c hc => ⟨.inr hc, fun e => dd_hr_hO c c e hc rfl⟩)
 refine lP 1 tK rfl ?_
 refine lC (oD tK (h2.cell 0 _ rfl) rfl rfl rfl rfl rfl ?_)
 refine lP 2 tK rfl (q1 ?_)
 refine cP _ rfl (fun c3 => ?_) (fun c3 => ?_)
 ·refine cG (lP 2 tK rfl ?_)
  refine lC (oD tK (h2.cell 2 _ rfl) rfl rfl rfl rfl rfl ?_)
  refine lC (o_look (z := 0) tK hm.map (k := t.n) rfl rfl rfl rfl ⟨_, Try.underlying3, rfl⟩ rfl rfl rfl rfl ?_)
  refine lP 1 tK rfl ?_
  refine lC (o_st tK h2.box rfl rfl rfl rfl (by simp [Value.cells, Value.oneCell']) rfl rfl ?_)
  intro w11 hw11 qw11 bew11
  have uw11 : UpdB _ _ _ := ⟨qw11, bew11⟩
  have sw11 := uw11.sp h2.inM Lw h2.ge
  have frw11 := qw11.2
  replace hT := hT.then sw11
  replace hr := hr.sp sw11 (fun x hx => frw11 x (hr.lt x hx).2 (d_hr_h2 x hx))
  replace hO := hO.sp sw11 (fun x hx => frw11 x (hO.lt x hx).2 (d_hO_h2 x hx))
  replace hfr := hfr.sp sw11 (fun x hx => frw11 x (hfr.lt x hx).2 (d_hfr_h2 x hx))
  replace hm := hm.sp sw11 (frw11 bm hm.lt ne_hm_h2)
  replace h4 := h4.sp sw11 (frw11 b4 h4.lt ne_h2_h4.symm)
  replace hF1 := fun b h => sw11.sub b (hF1 b h)
  replace Lw := sw11.low
  replace hB := sw11.z hB
  replace h2 : MB B _ w11 b2 _ [.int .u8 t.op, .string t.name, .int .i64 ((getK m t.n).getD 0), kv] := ⟨hw11, h2.inM, h2.ge⟩
  refine q1 (cS (q0 (lP 1 tK rfl ?_)))
  refine lC (oD tK (h2.cell 3 _ rfl) rfl rfl rfl rfl rfl ?_)
  refine lC (o_lenO tK hr rfl rfl rfl rfl rfl ?_)
  refine lP 1 tK rfl (q1 (cB ?_))
  refine c_loop4 (X := Nat) (Y := List (VN 3)) (Z := Nat → Prop) (U := Nat → Prop) (fun i us M1 F1 => [(1, .map (some bm)), (2, .pointer (some ⟨b2, 0, none⟩)), (4, .pointer (some ⟨b4, 0, none⟩)), (21, kv), (22, .int .i64 (t.kids.length : Int)), (23, .int .i64 (i : Nat))]) (fun i us M1 F1 w' => i ≤ t.kids.length ∧ OwnSl 25 B M1 w' kv us ∧ OTs 25 B w' us (mapTo (renF (fun n => (getK m n).getD 0)) t.kids i) F1 ∧ (∀ c, F1 c → M1 c) ∧ (∀ c, F1 c → F c ∨ w.heap.size ≤ c) ∧ Kept w w' (Out F w) ∧ Stp B M M1 w w' ∧ Low M1 w' ∧ B ≤ w'.heap.size ∧ MB B M1 w' b4 25 [.int .u8 0, .string ⟨#[]⟩, .int .i64 0, .slice none 0 0] ∧ MB B M1 w' b2 25 [.int .u8 t.op, .string t.name, .int .i64 ((getK m t.n).getD 0), kv] ∧ OM (κ := Int) (fun x : Int => Value.int .i64 x) B M1 w' bm m ∧ (∀ x y, (kv : Value).ownBlock = some x → F1 y → x ≠ y) ∧ (∀ x y, (kv : Value).ownBlock = some x → (Out F w) y → x ≠ y) ∧ (∀ x, (kv : Value).ownBlock = some x → x ≠ bm) ∧ (∀ x, F1 x → x ≠ bm) ∧ (∀ x, (kv : Value).ownBlock = some x → x ≠ b2) ∧ (∀ x, F1 x → x ≠ b2) ∧ (∀ x, (Out F w) x → x ≠ b2) ∧ (∀ x, (kv : Value).ownBlock = some x → x ≠ b4) ∧ (∀ x, F1 x → x ≠ b4) ∧ (∀ x, (Out F w) x → x ≠ b4)) (fun i us M1 F1 => t.kids.length - i) (0) (us) ((Rw.Add (Rw.Add M b2) b4)) (H) (s6 rfl rfl rfl rfl (gN rfl (by omega)) rfl) ?_ ?_
  ·refine ⟨Nat.zero_le _, ?_⟩
   rw [mapTo_zero]
   exact ⟨hr, hO, hF1, hFn, hfr, hT, Lw, hB, h4, h2, hm, dd_hr_hO, dd_hr_hfr, d_hr_hm, d_hO_hm, d_hr_h2, d_hO_h2, d_hfr_h2, d_hr_h4, d_hO_h4, d_hfr_h4⟩
  clear hF1 hFn hfr hT dd_hr_hO dd_hr_hfr d_hr_hm d_hO_hm d_hr_h2 d_hO_h2 d_hfr_h2 d_hr_h4 d_hO_h4 d_hfr_h4 hul
  rintro i us M1 F1 w12 ⟨hi, hr, hO, hF1, hFn, hfr, hT, Lw, hB, h4, h2, hm, dd_hr_hO, dd_hr_hfr, d_hr_hm, d_hO_hm, d_hr_h2, d_hO_h2, d_hfr_h2, d_hr_h4, d_hO_h4, d_hfr_h4⟩
  have hul := hO.len
  rw [mapTo_len] at hul
  refine q0 (lP 1 tK rfl (q1 (cS ?_)))
  refine cP _ rfl (fun c4 => ?_) (fun c4 => ?_)
  ·refine cK (xS (cS (cB (q0 (lP 1 tK rfl ?_)))))
   have hik : i < t.kids.length := by omega
   obtain ⟨⟨uv⟩, G, hui, hx, hGF, hOh⟩ := hO.take (mapTo_get hik)
   refine lC (o_ixO tK hr hui rfl rfl rfl rfl rfl rfl rfl rfl rfl ?_)
   intro ebx eux hobx hRx hX
   obtain ⟨e0, _⟩ := hRx
   replace e0 : eux = uv := e0
   subst e0
   obtain ⟨kvx, usx, Hx, rfl, opx, nmx, n64x, hknx, hrx, hOx, hHx⟩ := oty_open hx
   replace hX : OAt _ _ _ [.int .u8 t.kids[i].op, .string t.kids[i].name, .int .i64 t.kids[i].n, kvx] := hX
   refine lC (oL tK (fun j v hv => hX.cell j v hv) rfl rfl rfl rfl rfl rfl ?_)
   refine lC (o_new tK rfl rfl rfl ?_)
   intro b6 w13 qb6 ew13 hb6
   have nb6 := nO Lw qb6
   refine lP 1 tK rfl ?_
   refine lC (o_st tK hb6 rfl rfl rfl rfl hx.one rfl rfl ?_)
   intro w14 h6 uw14 bew14
   have ew14 : Ext w12 w14 := ew13.trans (bew14 _ (lQ qb6.symm))
   replace hT := hT.then (Stp.Y ew14 Lw hB)
   replace hr := hr.Y Lw hB ew14
   replace hfr := hfr.Y Lw hB ew14
   replace h4 := h4.Y Lw hB ew14
   replace h2 := h2.Y Lw hB ew14
   replace hm := hm.Y Lw hB ew14
   replace hOh := hOh.Y Lw hB ew14
   replace hx := hx.Y Lw hB ew14
   replace Lw := Lw.Y ew14
   replace hB := ew14.z hB
   replace h6 : Box w14 b6 25 [.int .u8 t.kids[i].op, .string t.kids[i].name, .int .i64 t.kids[i].n, kvx] := h6
   replace h6 := h6.at nb6
   refine q1 ?_
   refine a_beg (Sof2 B M1 b2) rfl ?_
   intro w15 ew15
   replace hT := hT.then (Stp.Y ew15 Lw hB)
   replace hr := hr.Y Lw hB ew15
   replace hfr := hfr.Y Lw hB ew15
   replace h4 := h4.Y Lw hB ew15
   replace h2 := h2.Y Lw hB ew15
   replace hm := hm.Y Lw hB ew15
   replace hOh := hOh.Y Lw hB ew15
   replace hx := hx.Y Lw hB ew15
   replace h6 := h6.Y ew15
   replace Lw := Lw.Y ew15
   replace hB := ew15.z hB
   have hS : Stp B M1 M1 w15 w15 := Stp.refl Lw
   have D_h4 := h4.box
   have D_h2 := h2.box
   have D_h6 := h6
   refine a_p 0 tK rfl rfl rfl rfl (by kernel_rfl) i3 ⟨⟨_, hS⟩, h2.box.heap.trans D_h2.heap.symm⟩ ?_
   refine a_ld 1 tK (fun _ hs => (D_h2.so2 hs).cell 3 _ rfl) rfl rfl rfl rfl rfl rfl (by kernel_rfl) i3 ⟨⟨_, hS⟩, h2.box.heap.trans D_h2.heap.symm⟩ ?_
   refine a_p 2 tK rfl rfl rfl rfl (by kernel_rfl) i3 ⟨⟨_, hS⟩, h2.box.heap.trans D_h2.heap.symm⟩ ?_
   refine a_lds 3 tK (fun _ hs j v hv => (D_h6.so2 hs).cell j v hv) rfl rfl rfl rfl rfl rfl rfl (by kernel_rfl) i3 ⟨⟨_, hS⟩, h2.box.heap.trans D_h2.heap.symm⟩ ?_
   refine a_p 4 tK rfl rfl rfl rfl (by kernel_rfl) i3 ⟨⟨_, hS⟩, h2.box.heap.trans D_h2.heap.symm⟩ ?_
   have l_h4 := h4.lt
   have l_h2 := h2.lt
   have l_hm := hm.lt
   have hsz0 := hT.upd.1
   have lH := hOh.lt
   have lr := hr.lt
   refine a_one 5 rfl (by kernel_rfl) (oK fo79 rfl rfl rfl (ih _ (gM hik) m _ _ B _ G bm hx (fun c hc => hF1 c (hGF c hc)) hm (fun g => d_hO_hm _ (hGF _ g) rfl) hmI Lw hB) ?_)
   rintro vq w16 ⟨Mw16, Fw16, hq, hq2, sw16, kw16⟩
   have frw16 : ∀ x, x < w15.heap.size → ¬ G x → w16.heap[x]? = w15.heap[x]? := fun x hx hg => kw16.blk x ⟨hx, hg⟩
   replace hT := hT.then sw16
   replace hS := hS.then sw16
   replace hr := hr.sp sw16 (fun x hx => frw16 x (hr.lt x hx).2 (fun g => dd_hr_hO x x hx (hGF x g) rfl))
   replace hfr := hfr.sp sw16 (fun x hx => frw16 x (hfr.lt x hx).2 (fun g => (hFn x (hGF x g)).elim hx.2 (fun h => by have := hx.1; have := hfr.size; omega)))
   replace h4 := h4.sp sw16 (frw16 b4 h4.lt (fun g => d_hO_h4 _ (hGF _ g) rfl))
   replace h2 := h2.sp sw16 (frw16 b2 h2.lt (fun g => d_hO_h2 _ (hGF _ g) rfl))
   replace hm := hm.sp sw16 (frw16 bm hm.lt (fun g => d_hO_hm _ (hGF _ g) rfl))
   replace hOh := hOh.sp sw16 (fun c hc hn => frw16 c (hOh.lt c hc).2 hn)
   replace h6 := h6.sp sw16
   replace hF1 := fun b h => sw16.sub b (hF1 b h)
   replace Lw := sw16.low
   replace hB := sw16.z hB
   refine ⟨⟨⟨_, hS⟩, h2.box.heap.trans D_h2.heap.symm⟩, ?_⟩
   have hO := hOh.put hq (fun c hc => (hq2 c hc).2.elim .inl (fun h => .inr (fun hf => by have := (lH c hf).2; omega)))
   replace hF1 : ∀ c, F1 c ∨ Fw16 c → Mw16 c := fun c h => h.elim (hF1 c) (fun h => (hq2 c h).1)
   replace dd_hr_hO : ∀ x y, kv.ownBlock = some x → (F1 y ∨ Fw16 y) → x ≠ y := fun x y hx hy => hy.elim (dd_hr_hO x y hx) (fun h => (hq2 y h).2.elim (fun g => dd_hr_hO x y hx (hGF y g)) (fun h => by have := (lr x hx).2; omega))
   replace d_hO_h4 : ∀ x, (F1 x ∨ Fw16 x) → x ≠ b4 := fun x hx => hx.elim (d_hO_h4 x) (fun h => (hq2 x h).2.elim (fun g => d_hO_h4 x (hGF x g)) (fun h => by have := l_h4; omega))
   replace d_hO_h2 : ∀ x, (F1 x ∨ Fw16 x) → x ≠ b2 := fun x hx => hx.elim (d_hO_h2 x) (fun h => (hq2 x h).2.elim (fun g => d_hO_h2 x (hGF x g)) (fun h => by have := l_h2; omega))
   replace d_hO_hm : ∀ x, (F1 x ∨ Fw16 x) → x ≠ bm := fun x hx => hx.elim (d_hO_hm x) (fun h => (hq2 x h).2.elim (fun g => d_hO_hm x (hGF x g)) (fun h => by have := l_hm; omega))
   replace hFn : ∀ c, (F1 c ∨ Fw16 c) → F c ∨ w.heap.size ≤ c := fun c hc => hc.elim (hFn c) (fun h => (hq2 c h).2.elim (fun g => hFn c (hGF c g)) (fun h => .inr (by have := hsz0; omega)))
   refine a_ixO 6 tK hr hui rfl rfl rfl rfl rfl rfl rfl rfl rfl rfl (by kernel_rfl) i4 ⟨⟨_, hS⟩, h2.box.heap.trans D_h2.heap.symm⟩ ?_
   intro ebz euz hobz hRz hatz
   refine a_bar 7 rfl (by kernel_rfl) (by kernel_rfl) (o_stO tK hr hobz (by omega) hq.vn Lw rfl rfl rfl rfl rfl rfl ?_)
   intro w17 hw17 sw17 frw17
   replace hT := hT.then sw17
   replace hS := hS.then sw17
   replace hfr := hfr.sp sw17 (fun x hx => frw17 x (hfr.lt x hx).2 (fun e => dd_hr_hfr _ x hobz hx e.symm))
   replace h4 := h4.sp sw17 (frw17 b4 h4.lt (fun e => d_hr_h4 _ hobz e.symm))
   replace h2 := h2.sp sw17 (frw17 b2 h2.lt (fun e => d_hr_h2 _ hobz e.symm))
   replace hm := hm.sp sw17 (frw17 bm hm.lt (fun e => d_hr_hm _ hobz e.symm))
   replace hO := hO.sp sw17 (fun x hx => frw17 x (hO.lt x hx).2 (fun e => dd_hr_hO _ x hobz hx e.symm))
   replace h6 := h6.sp sw17
   replace hF1 := fun b h => sw17.sub b (hF1 b h)
   replace Lw := sw17.low
   replace hB := sw17.z hB
   replace hr := hw17
   clear hw17
   refine a_end (by kernel_rfl) ?_
   refine x_blk (xS (cG ?_))
   refine lC (o_ai rfl rfl rfl (by omega) rfl rfl ?_)
   refine lP 1 tK rfl (lN ?_)
   exact x_round4 (i + 1) (us.set i ⟨vq⟩) (Mw16) ((fun c => F1 c ∨ Fw16 c)) (s6 rfl rfl rfl rfl rfl rfl) ⟨by omega, hr, by rw [← mapTo_set hik]; exact hO, hF1, hFn, hfr, hT, Lw, hB, h4, h2, hm, dd_hr_hO, dd_hr_hfr, d_hr_hm, d_hO_hm, d_hr_h2, d_hO_h2, d_hfr_h2, d_hr_h4, d_hO_h4, d_hfr_h4⟩ (by omega)
  refine c_exit (xE (xE (x_blkE (xS (q0 ?_)))))
  refine lC (oL tK (fun j v hv => h2.cell j v hv) rfl rfl rfl rfl rfl rfl ?_)
  refine lC (o_st tK h4.box rfl rfl rfl rfl (own_ones hr) rfl rfl ?_)
  intro w18 hw18 qw18 bew18
  have uw18 : UpdB _ _ _ := ⟨qw18, bew18⟩
  have sw18 := uw18.sp h4.inM Lw h4.ge
  have frw18 := qw18.2
  replace hT := hT.then sw18
  replace hr := hr.sp sw18 (fun x hx => frw18 x (hr.lt x hx).2 (d_hr_h4 x hx))
  replace hO := hO.sp sw18 (fun x hx => frw18 x (hO.lt x hx).2 (d_hO_h4 x hx))
  replace hfr := hfr.sp sw18 (fun x hx => frw18 x (hfr.lt x hx).2 (d_hfr_h4 x hx))
  replace h2 := h2.sp sw18 (frw18 b2 h2.lt ne_h2_h4)
  replace hm := hm.sp sw18 (frw18 bm hm.lt ne_hm_h4)
  replace hF1 := fun b h => sw18.sub b (hF1 b h)
  replace Lw := sw18.low
  replace hB := sw18.z hB
  replace h4 : MB B _ w18 b4 _ [.int .u8 t.op, .string t.name, .int .i64 ((getK m t.n).getD 0), kv] := ⟨hw18, h4.inM, h4.ge⟩
  refine q1 (cR ?_)
  refine x_ret1s tK (fun j v hv => h4.cell j v hv) rfl rfl rfl rfl rfl ?_
  have hnb : numB t.op = true := by clear ih; simp [numB, *]
  have hn2 : I64 ((getK m t.n).getD 0) := hmI _
  obtain rfl : i = t.kids.length := by omega
  rw [mapTo_all (lR _)] at hO
  refine ⟨_, fun c => kv.ownBlock = some c ∨ F1 c, ?_, fun c hc => hc.elim (fun h => ⟨hr.inM c h, .inl (hkF c h)⟩) (fun h => ⟨hF1 c h, hFn c h⟩), hT, hfr⟩
  rw [renF_eq, hnb]
  exact oty_mk op nm hn2 (by simpa using hkn) (fun c hc => hc.elim (hr.lt c) (hO.lt c)) (hr.keepV (fun b hb => .inl hb) (fun _ _ _ _ _ => rfl)) hO (fun c hc => ⟨.inr hc, fun e => dd_hr_hO c c e hc rfl⟩)
 refine cK (xS (cS (q0 (lP 1 tK rfl ?_))))
 refine lC (oD tK (h2.cell 3 _ rfl) rfl rfl rfl rfl rfl ?_)
 refine lC (o_lenO tK hr rfl rfl rfl rfl rfl ?_)
 refine lP 1 tK rfl (q1 (cB ?_))
 refine c_loop4 (X := Nat) (Y := List (VN 3)) (Z := Nat → Prop) (U := Nat → Prop) (fun i us M1 F1 => [(1, .map (some bm)), (2, .pointer (some ⟨b2, 0, none⟩)), (4, .pointer (some ⟨b4, 0, none⟩)), (21, kv), (22, .int .i64 (t.kids.length : Int)), (23, .int .i64 (i : Nat))]) (fun i us M1 F1 w' => i ≤ t.kids.length ∧ OwnSl 25 B M1 w' kv us ∧ OTs 25 B w' us (mapTo (renF (fun n => (getK m n).getD 0)) t.kids i) F1 ∧ (∀ c, F1 c → M1 c) ∧ (∀ c, F1 c → F c ∨ w.heap.size ≤ c) ∧ Kept w w' (Out F w) ∧ Stp B M M1 w w' ∧ Low M1 w' ∧ B ≤ w'.heap.size ∧ MB B M1 w' b4 25 [.int .u8 0, .string ⟨#[]⟩, .int .i64 0, .slice none 0 0] ∧ MB B M1 w' b2 25 [.int .u8 t.op, .string t.name, .int .i64 t.n, kv] ∧ OM (κ := Int) (fun x : Int => Value.int .i64 x) B M1 w' bm m ∧ (∀ x y, (kv : Value).ownBlock = some x → F1 y → x ≠ y) ∧ (∀ x y, (kv : Value).ownBlock = some x → (Out F w) y → x ≠ y) ∧ (∀ x, (kv : Value).ownBlock = some x → x ≠ bm) ∧ (∀ x, F1 x → x ≠ bm) ∧ (∀ x, (kv : Value).ownBlock = some x → x ≠ b2) ∧ (∀ x, F1 x → x ≠ b2) ∧ (∀ x, (Out F w) x → x ≠ b2) ∧ (∀ x, (kv : Value).ownBlock = some x → x ≠ b4) ∧ (∀ x, F1 x → x ≠ b4) ∧ (∀ x, (Out F w) x → x ≠ b4)) (fun i us M1 F1 => t.kids.length - i) (0) (us) ((Rw.Add (Rw.Add M b2) b4)) (H) (s6 rfl rfl rfl rfl (gN rfl (by omega)) rfl) ?_ ?_
 ·refine ⟨Nat.zero_le _, ?_⟩
  rw [mapTo_zero]
  exact ⟨hr, hO, hF1, hFn, hfr, hT, Lw, hB, h4, h2, hm, dd_hr_hO, dd_hr_hfr, d_hr_hm, d_hO_hm, d_hr_h2, d_hO_h2, d_hfr_h2, d_hr_h4, d_hO_h4, d_hfr_h4⟩
 clear hF1 hFn hfr hT dd_hr_hO dd_hr_hfr d_hr_hm d_hO_hm d_hr_h2 d_hO_h2 d_hfr_h2 d_hr_h4 d_hO_h4 d_hfr_h4 hul
 rintro i us M1 F1 w19 ⟨hi, hr, hO, hF1, hFn, hfr, hT, Lw, hB, h4, h2, hm, dd_hr_hO, dd_hr_hfr, d_hr_hm, d_hO_hm, d_hr_h2, d_hO_h2, d_hfr_h2, d_hr_h4, d_hO_h4, d_hfr_h4⟩
 have hul := hO.len
 rw [mapTo_len] at hul
 refine q0 (lP 1 tK rfl (q1 (cS ?_)))
 refine cP _ rfl (fun c5 => ?_) (fun c5 => ?_)
 ·refine cK (xS (cS (cB (q0 (lP 1 tK rfl ?_)))))
  have hik : i < t.kids.length := by omega
  obtain ⟨⟨uv⟩, G, hui, hx, hGF, hOh⟩ := hO.take (mapTo_get hik)
  refine lC (o_ixO tK hr hui rfl rfl rfl rfl rfl rfl rfl rfl rfl ?_)
  intro ebx eux hobx hRx hX
  obtain ⟨e0, _⟩ := hRx
  replace e0 : eux = uv := e0
  subst e0
  obtain ⟨kvx, usx, Hx, rfl, opx, nmx, n64x, hknx, hrx, hOx, hHx⟩ := oty_open hx
  replace hX : OAt _ _ _ [.int .u8 t.kids[i].op, .string t.kids[i].name, .int .i64 t.kids[i].n, kvx] := hX
  refine lC (oL tK (fun j v hv => hX.cell j v hv) rfl rfl rfl rfl rfl rfl ?_)
  refine lC (o_new tK rfl rfl rfl ?_)
  intro b6 w20 qb6 ew20 hb6
  have nb6 := nO Lw qb6
  refine lP 1 tK rfl ?_
  refine lC (o_st tK hb6 rfl rfl rfl rfl hx.one rfl rfl ?_)
  intro w21 h6 uw21 bew21
  have ew21 : Ext w19 w21 := ew20.trans (bew21 _ (lQ qb6.symm))
  replace hT := hT.then (Stp.Y ew21 Lw hB)
  replace hr := hr.Y Lw hB ew21
  replace hfr := hfr.Y Lw hB ew21
  replace h4 := h4.Y Lw hB ew21
  replace h2 := h2.Y Lw hB ew21
  replace hm := hm.Y Lw hB ew21
  replace hOh := hOh.Y Lw hB ew21
  replace hx := hx.Y Lw hB ew21
  replace Lw := Lw.Y ew21
  replace hB := ew21.z hB
  replace h6 : Box w21 b6 25 [.int .u8 t.kids[i].op, .string t.kids[i].name, .int .i64 t.kids[i].n, kvx] := h6
  replace h6 := h6.at nb6
  refine q1 ?_
  refine a_beg (Sof2 B M1 b2) rfl ?_
  intro w22 ew22
  replace hT := hT.then (Stp.Y ew22 Lw hB)
  replace hr := hr.Y Lw hB ew22
  replace hfr := hfr.Y Lw hB ew22
  replace h4 := h4.Y Lw hB ew22
  replace h2 := h2.Y Lw hB ew22
  replace hm := hm.Y Lw hB ew22
  replace hOh := hOh.Y Lw hB ew22
  replace hx := hx.Y Lw hB ew22
  replace h6 := h6.Y ew22
  replace Lw := Lw.Y ew22
  replace hB := ew22.z hB
  have hS : Stp B M1 M1 w22 w22 := Stp.refl Lw
  have D_h4 := h4.box
  have D_h2 := h2.box
  have D_h6 := h6
  refine a_p 0 tK rfl rfl rfl rfl (by kernel_rfl) i3 ⟨⟨_, hS⟩, h2.box.heap.trans D_h2.heap.symm⟩ ?_
  refine a_ld 1 tK (fun _ hs => (D_h2.so2 hs).cell 3 _ rfl) rfl rfl rfl rfl rfl rfl (by kernel_rfl) i3 ⟨⟨_, hS⟩, h2.box.heap.trans D_h2.heap.symm⟩ ?_
  refine a_p 2 tK rfl rfl rfl rfl (by kernel_rfl) i3 ⟨⟨_, hS⟩, h2.box.heap.trans D_h2.heap.symm⟩ ?_
  refine a_lds 3 tK (fun _ hs j v hv => (D_h6.so2 hs).cell j v hv) rfl rfl rfl rfl rfl rfl rfl (by kernel_rfl) i3 ⟨⟨_, hS⟩, h2.box.heap.trans D_h2.heap.symm⟩ ?_
  refine a_p 4 tK rfl rfl rfl rfl (by kernel_rfl) i3 ⟨⟨_, hS⟩, h2.box.heap.trans D_h2.heap.symm⟩ ?_
  have l_h4 := h4.lt
  have l_h2 := h2.lt
  have l_hm := hm.lt
  have hsz0 := hT.upd.1
  have lH := hOh.lt
  have lr := hr.lt
  refine a_one 5 rfl (by kernel_rfl) (oK fo79 rfl rfl rfl (ih _ (gM hik) m _ _ B _ G bm hx (fun c hc => hF1 c (hGF c hc)) hm (fun g => d_hO_hm _ (hGF _ g) rfl) hmI Lw hB) ?_)
  rintro vq w23 ⟨Mw23, Fw23, hq, hq2, sw23, kw23⟩
  have frw23 : ∀ x, x < w22.heap.size → ¬ G x → w23.heap[x]? = w22.heap[x]? := fun x hx hg => kw23.blk x ⟨hx, hg⟩
  replace hT := hT.then sw23
  replace hS := hS.then sw23
  replace hr := hr.sp sw23 (fun x hx => frw23 x (hr.lt x hx).2 (fun g => dd_hr_hO x x hx (hGF x g) rfl))
  replace hfr := hfr.sp sw23 (fun x hx => frw23 x (hfr.lt x hx).2 (fun g => (hFn x (hGF x g)).elim hx.2 (fun h => by have := hx.1; have := hfr.size; omega)))
  replace h4 := h4.sp sw23 (frw23 b4 h4.lt (fun g => d_hO_h4 _ (hGF _ g) rfl))
  replace h2 := h2.sp sw23 (frw23 b2 h2.lt (fun g => d_hO_h2 _ (hGF _ g) rfl))
  replace hm := hm.sp sw23 (frw23 bm hm.lt (fun g => d_hO_hm _ (hGF _ g) rfl))
  replace hOh := hOh.sp sw23 (fun c hc hn => frw23 c (hOh.lt c hc).2 hn)
  replace h6 := h6.sp sw23
  replace hF1 := fun b h => sw23.sub b (hF1 b h)
  replace Lw := sw23.low
  replace hB := sw23.z hB
  refine ⟨⟨⟨_, hS⟩, h2.box.heap.trans D_h2.heap.symm⟩, ?_⟩
  have hO := hOh.put hq (fun c hc => (hq2 c hc).2.elim .inl (fun h => .inr (fun hf => by have := (lH c hf).2; omega)))
  replace hF1 : ∀ c, F1 c ∨ Fw23 c → Mw23 c := fun c h => h.elim (hF1 c) (fun h => (hq2 c h).1)
  replace dd_hr_hO : ∀ x y, kv.ownBlock = some x → (F1 y ∨ Fw23 y) → x ≠ y := fun x y hx hy => hy.elim (dd_hr_hO x y hx) (fun h => (hq2 y h).2.elim (fun g => dd_hr_hO x y hx (hGF y g)) (fun h => by have := (lr x hx).2; omega))
  replace d_hO_h4 : ∀ x, (F1 x ∨ Fw23 x) → x ≠ b4 := fun x hx => hx.elim (d_hO_h4 x) (fun h => (hq2 x h).2.elim (fun g => d_hO_h4 x (hGF x g)) (fun h => by have := l_h4; omega))
  replace d_hO_h2 : ∀ x, (F1 x ∨ Fw23 x) → x ≠ b2 := fun x hx => hx.elim (d_hO_h2 x) (fun h => (hq2 x h).2.elim (fun g => d_hO_h2 x (hGF x g)) (fun h => by have := l_h2; omega))
  replace d_hO_hm : ∀ x, (F1 x ∨ Fw23 x) → x ≠ bm := fun x hx => hx.elim (d_hO_hm x) (fun h => (hq2 x h).2.elim (fun g => d_hO_hm x (hGF x g)) (fun h => by have := l_hm; omega))
  replace hFn : ∀ c, (F1 c ∨ Fw23 c) → F c ∨ w.heap.size ≤ c := fun c hc => hc.elim (hFn c) (fun h => (hq2 c h).2.elim (fun g => hFn c (hGF c g)) (fun h => .inr (by have := hsz0; omega)))
  refine a_ixO 6 tK hr hui rfl rfl rfl rfl rfl rfl rfl rfl rfl rfl (by kernel_rfl) i4 ⟨⟨_, hS⟩, h2.box.heap.trans D_h2.heap.symm⟩ ?_
  intro ebz euz hobz hRz hatz
  refine a_bar 7 rfl (by kernel_rfl) (by kernel_rfl) (o_stO tK hr hobz (by omega) hq.vn Lw rfl rfl rfl rfl rfl rfl ?_)
  intro w24 hw24 sw24 frw24
  replace hT := hT.then sw24
  replace hS := hS.then sw24
  replace hfr := hfr.sp sw24 (fun x hx => frw24 x (hfr.lt x hx).2 (fun e => dd_hr_hfr _ x hobz hx e.symm))
  replace h4 := h4.sp sw24 (frw24 b4 h4.lt (fun e => d_hr_h4 _ hobz e.symm))
  replace h2 := h2.sp sw24 (frw24 b2 h2.lt (fun e => d_hr_h2 _ hobz e.symm))
  replace hm := hm.sp sw24 (frw24 bm hm.lt (fun e => d_hr_hm _ hobz e.symm))
  replace hO := hO.sp sw24 (fun x hx => frw24 x (hO.lt x hx).2 (fun e => dd_hr_hO _ x hobz hx e.symm))
  replace h6 := h6.sp sw24
  replace hF1 := fun b h => sw24.sub b (hF1 b h)
  replace Lw := sw24.low
  replace hB := sw24.z hB
  replace hr := hw24
  clear hw24
  refine a_end (by kernel_rfl) ?_
  refine x_blk (xS (cG ?_))
  refine lC (o_ai rfl rfl rfl (by omega) rfl rfl ?_)
  refine lP 1 tK rfl (lN ?_)
  exact x_round4 (i + 1) (us.set i ⟨vq⟩) (Mw23) ((fun c => F1 c ∨ Fw23 c)) (s6 rfl rfl rfl rfl rfl rfl) ⟨by omega, hr, by rw [← mapTo_set hik]; exact hO, hF1, hFn, hfr, hT, Lw, hB, h4, h2, hm, dd_hr_hO, dd_hr_hfr, d_hr_hm, d_hO_hm, d_hr_h2, d_hO_h2, d_hfr_h2, d_hr_h4, d_hO_h4, d_hfr_h4⟩ (by omega)
 refine c_exit (xE (xE (x_blkE (xS (q0 ?_)))))
 refine lC (oL tK (fun j v hv => h2.cell j v hv) rfl rfl rfl rfl rfl rfl ?_)
 refine lC (o_st tK h4.box rfl rfl rfl rfl (own_ones hr) rfl rfl ?_)
 intro w25 hw25 qw25 bew25
 have uw25 : UpdB _ _ _ := ⟨qw25, bew25⟩
 have sw25 := uw25.sp h4.inM Lw h4.ge
 have frw25 := qw25.2
 replace hT := hT.then sw25
 replace hr := hr.sp sw25 (fun x hx => frw25 x (hr.lt x hx).2 (d_hr_h4 x hx))
 replace hO := hO.sp sw25 (fun x hx => frw25 x (hO.lt x hx).2 (d_hO_h4 x hx))
 replace hfr := hfr.sp sw25 (fun x hx => frw25 x (hfr.lt x hx).2 (d_hfr_h4 x hx))
 replace h2 := h2.sp sw25 (frw25 b2 h2.lt ne_h2_h4)
 replace hm := hm.sp sw25 (frw25 bm hm.lt ne_hm_h4)
 replace hF1 := fun b h => sw25.sub b (hF1 b h)
 replace Lw := sw25.low
 replace hB := sw25.z hB
 replace h4 : MB B _ w25 b4 _ [.int .u8 t.op, .string t.name, .int .i64 t.n, kv] := ⟨hw25, h4.inM, h4.ge⟩
 refine q1 (cR ?_)
 refine x_ret1s tK (fun j v hv => h4.cell j v hv) rfl rfl rfl rfl rfl ?_
 have hnb : numB t.op = false := by clear ih; simp [numB, *]
 have hn2 : I64 t.n := n64
 obtain rfl : i = t.kids.length := by omega
 rw [mapTo_all (lR _)] at hO
 refine ⟨_, fun c => kv.ownBlock = some c ∨ F1 c, ?_, fun c hc => hc.elim (fun h => ⟨hr.inM c h, .inl (hkF c h)⟩) (fun h => ⟨hF1 c h, hFn c h⟩), hT, hfr⟩
 rw [renF_eq, hnb]
 exact oty_mk op nm hn2 (by simpa using hkn) (fun c hc => hc.elim (hr.lt c) (hO.lt c)) (hr.keepV (fun b hb => .inl hb) (fun _ _ _ _ _ => rfl)) hO (fun c hc => ⟨.inr hc, fun e => dd_hr_hO c c e hc rfl⟩)
open Go Rw Go.RowKit
set_option maxRecDepth 100000
theorem Number_own (t : Ty) (M : Nat → Prop) (w : World) (v : Value) (ht : Rep.R M w v t) (hlow0 : Low M w) (hz : psz t ≤ 2000000) :
  Calls Try.prog 44 #[v] w (Ret fun r w' => OTy 25 w.heap.size w' (bif rightB t || rowB t then numberF t else (Ty.mk 0 ⟨#[]⟩ 0 [])) r (Plus NoM w w') ∧ Ext w w') := by
 have Lw := hlow0
 have hB := lR w.heap.size
 have hE := Below.refl w.heap.size w
 have hsub : ∀ b, M b → M b := fun _ h => h
 obtain ⟨kv, rfl, op, nm, n64, hk⟩ := tO ht
 refine cN (n := 27) Try.func44 rfl rfl rfl ?_
 refine q0 ?_
 refine lC (o_box rfl rfl rfl ?_)
 intro b1 w1 hb_b1 ew1 h1
 replace h1 : Box _ b1 25 [.int .u8 t.op, .string t.name, .int .i64 t.n, kv] := h1
 replace h1 := h1.at (nO Lw hb_b1)
 replace hE := ew1.bl hE hB
 replace ht := Rep.Y ht ew1
 replace hk := hk.Y ew1
 replace Lw := Lw.Y ew1
 replace hB := ew1.z hB
 refine lC (o_new tK rfl rfl rfl ?_)
 intro b2 w2 qb2 ew2 hb2
 have sw2 := Stp.add ew2 Lw hB (lQ qb2.symm) hb2.lt
 have h2 : MB w.heap.size (Rw.Add M b2) w2 b2 25 [.int .u8 0, .string ⟨#[]⟩, .int .i64 0, .slice none 0 0] := MB.mk' hb2 qb2 hB
 replace hE := hE.trans sw2.below
 replace ht := Rep.sp ht sw2
 replace hk := hk.sp sw2
 replace h1 := h1.sp sw2
 replace hsub := sw2.sb hsub
 replace Lw := sw2.low
 replace hB := sw2.z hB
 refine q1 (cS (q0 ?_))
 refine lC (oL tK (fun j v hv => h1.cell j v hv) rfl rfl rfl rfl rfl rfl ?_)
 refine lC (oK fo70 rfl rfl rfl (either_specB t _ _ _ ht Lw) ?_)
 rintro _ w3 ⟨rfl, ew3⟩
 replace h2 := h2.Y Lw hB ew3
 replace hE := ew3.bl hE hB
 replace ht := Rep.Y ht ew3
 replace hk := hk.Y ew3
 replace h1 := h1.Y ew3
 replace Lw := Lw.Y ew3
 replace hB := ew3.z hB
 refine lP 1 tK rfl (q1 ?_)
 refine c_ifB _ rfl (fun hr => ?_) (fun hr => ?_)
 ·refine q0 ?_
  refine lC (o_build (cells := [.int .u8 0, .string ⟨#[]⟩, .int .i64 0, .slice none 0 0]) (css := []) bd25 rfl rfl rfl rfl rfl ?_)
  refine lC (o_st tK h2.box rfl rfl rfl rfl (by intro u hu; simp [Value.cells] at hu; rcases hu with rfl | rfl | rfl | rfl <;> rfl) rfl rfl ?_)
  intro w4 hw4 qw4 bew4
  have uw4 : UpdB _ _ _ := ⟨qw4, bew4⟩
  have sw4 := uw4.sp h2.inM Lw h2.ge
  have frw4 := qw4.2
  replace hE := hE.trans sw4.below
  replace ht := Rep.sp ht sw4
  replace hk := hk.sp sw4
  replace h1 := h1.sp sw4
  replace hsub := sw4.sb hsub
  replace Lw := sw4.low
  replace hB := sw4.z hB
  replace h2 : MB w.heap.size _ w4 b2 _ [.int .u8 0, .string ⟨#[]⟩, .int .i64 0, .slice none 0 0] := ⟨hw4, h2.inM, h2.ge⟩
  refine q1 (cR (xR ?_))
  refine x_ret1s tK (fun j v hv => h2.cell j v hv) rfl rfl rfl rfl rfl ?_
  rw [show (rightB t || rowB t) = false from hr]
  exact ⟨oty_leaf (by decide) (by decide) ⟨by decide, by decide⟩, hE⟩
 refine cK (xS (q0 ?_))
 refine lC (o_mkmap (κ := Int) (ν := Int) (va := (fun x : Int => Value.int .i64 x)) rfl rfl ?_)
 intro bm w5 qbm ew5 ltbm hbm
 have ne_h2_hm : b2 ≠ bm := by have := h2.lt; omega
 have sw5 := Stp.add ew5 Lw hB (lQ qbm.symm) ltbm
 have hm : OM (κ := Int) (fun x : Int => Value.int .i64 x) w.heap.size (Rw.Add (Rw.Add M b2) bm) w5 bm [] := OM.mk' hbm qbm hB
 replace h2 := h2.sp sw5 (ew5.block b2 h2.lt)
 replace hE := hE.trans sw5.below
 replace ht := Rep.sp ht sw5
 replace hk := hk.sp sw5
 replace h1 := h1.sp sw5
 replace hsub := sw5.sb hsub
 replace Lw := sw5.low
 replace hB := sw5.z hB
 refine lP 1 tK rfl (q1 (cS (q0 ?_)))
 refine lC (oL tK (fun j v hv => h1.cell j v hv) rfl rfl rfl rfl rfl rfl ?_)
 refine lC (oK fo45 rfl rfl rfl (kVars_spec t _ _ _ ht Lw hz) ?_)
 rintro vhv w6 ⟨hv, ew6⟩
 replace h2 := h2.Y Lw hB ew6
 replace hm := hm.Y Lw hB ew6
 replace hE := ew6.bl hE hB
 replace ht := Rep.Y ht ew6
 replace hk := hk.Y ew6
 replace h1 := h1.Y ew6
 replace Lw := Lw.Y ew6
 replace hB := ew6.z hB
 rw [show (rightB t || rowB t) = true from hr] at hv
 replace hv : Sl _ w6 vhv (varsF t) := hv
 have hvl := hv.lt
 have hnd : (varsF t).Nodup := varsTo_nodup (by simp) _
 refine lC (o_len tK hv rfl rfl rfl rfl rfl ?_)
 refine lP 1 tK rfl (q1 (cB ?_))
 refine c_loop (X := Nat) (fun i => [(1, .pointer (some ⟨b1, 0, none⟩)), (2, .pointer (some ⟨b2, 0, none⟩)), (3, .map (some bm)), (12, vhv), (13, .int .i64 ((varsF t).length : Int)), (14, .int .i64 (i : Nat))]) (fun i w' => i ≤ (varsF t).length ∧ MB w.heap.size (Rw.Add (Rw.Add M b2) bm) w' b2 25 [.int .u8 0, .string ⟨#[]⟩, .int .i64 0, .slice none 0 0] ∧ OM (κ := Int) (fun x : Int => Value.int .i64 x) w.heap.size (Rw.Add (Rw.Add M b2) bm) w' bm (tabTo (varsF t) i) ∧ Sl (Rw.Add (Rw.Add M b2) bm) w' vhv (varsF t) ∧ At (Rw.Add (Rw.Add M b2) bm) w' b1 0 [.int .u8 t.op, .string t.name, .int .i64 t.n, kv] ∧ Rep.R (Rw.Add (Rw.Add M b2) bm) w' (.agg #[.int .u8 t.op, .string t.name, .int .i64 t.n, kv]) t ∧ Low (Rw.Add (Rw.Add M b2) bm) w' ∧ (∀ b, M b → (Rw.Add (Rw.Add M b2) bm) b) ∧ Below w.heap.size w w' ∧ w.heap.size ≤ w'.heap.size) (fun i => (varsF t).length - i) (0) (s6 rfl rfl rfl rfl rfl rfl) ?_ ?_
 ·refine ⟨Nat.zero_le _, h2, ?_, hv, h1, ht, Lw, hsub, hE, hB⟩
  rw [tabTo_zero]; exact hm
 clear hsub
 rintro i w7 ⟨hi, h2, hm, hv, h1, ht, Lw, hsub, hE, hB⟩
 refine q0 (lP 1 tK rfl (q1 (cS ?_)))
 refine cP _ rfl (fun hc0 => ?_) (fun hc0 => ?_)
 ·refine cK (xS (cS (cB (q0 (lP 1 tK rfl ?_)))))
  have hik : i < (varsF t).length := by omega
  refine lC (o_ixS tK hv (gE hik) rfl rfl rfl rfl rfl rfl rfl rfl rfl ?_)
  intro ebx eox eux hyx hX
  obtain ⟨rfl, hyi⟩ := hyx
  refine lC (oD tK (hX.cell 0 _ rfl) rfl rfl rfl rfl rfl ?_)
  refine lP 2 tK rfl (q1 (cG (lP 3 tK rfl ?_)))
  refine lC (o_mupd tK hm.map (k := (varsF t)[i]) (v := (i : Int)) rfl rfl rfl rfl rfl ⟨_, Try.underlying3, rfl⟩ rfl ?_)
  intro w8 hw8 qw8 bew8
  have uw8 : UpdB _ _ _ := ⟨qw8, bew8⟩
  have sw8 := uw8.sp hm.inM Lw hm.ge
  have frw8 := qw8.2
  replace h2 := h2.sp sw8 (frw8 b2 h2.lt ne_h2_hm)
  replace hE := hE.trans sw8.below
  replace hv := hv.sp sw8
  replace h1 := h1.sp sw8
  replace ht := Rep.sp ht sw8
  replace hsub := sw8.sb hsub
  replace Lw := sw8.low
  replace hB := sw8.z hB
  replace hm : OM _ _ _ w8 _ (putK (tabTo (varsF t) i) (varsF t)[i] (i : Int)) := ⟨hw8, hm.inM, hm.ge⟩
  refine q2 (xS (cG ?_))
  refine lC (o_ai rfl rfl rfl (by omega) rfl rfl ?_)
  refine lP 1 tK rfl (lN ?_)
  exact x_round (i + 1) (s6 rfl rfl rfl rfl rfl (gN rfl (by omega))) ⟨by omega, h2, by rw [tabTo_succ hik]; exact hm, hv, h1, ht, Lw, hsub, hE, hB⟩ (by omega)
 refine c_exit (xE (xE (x_blkE (xS (q0 ?_)))))
 refine lC (oL tK (fun j v hv => h1.cell j v hv) rfl rfl rfl rfl rfl rfl ?_)
 obtain rfl : i = (varsF t).length := by omega
 have l_h2 := h2.lt
 have l_hm := hm.lt
 refine lC (oK fo73 rfl rfl rfl (canon_own _ t _ _ _ _ (lR _) (Classical.choose_spec (shape_either hr)) ht Lw hz) ?_)
 rintro vc w9 ⟨hc, ew9⟩
 replace hc := hc.ge hB
 have hGl : ∀ c, Plus NoM w7 w9 c → w7.heap.size ≤ c ∧ c < w9.heap.size := fun c h => h.elim (fun h => h.elim) id
 generalize Plus NoM w7 w9 = G at hc hGl
 have sw9 := (Stp.Y ew9 Lw hB).more hGl
 replace h2 := h2.sp sw9 (ew9.block b2 h2.lt)
 replace hm := hm.sp sw9 (ew9.block bm hm.lt)
 replace hE := hE.trans sw9.below
 replace hv := hv.sp sw9
 replace h1 := h1.sp sw9
 replace ht := Rep.sp ht sw9
 replace hsub := sw9.sb hsub
 replace Lw := sw9.low
 replace hB := sw9.z hB
 have d_hc_h2 : ∀ x, G x → x ≠ b2 := fun x hx => by have := (hGl x hx).1; omega
 refine lP 1 tK rfl ?_
 have l2_h2 := h2.lt
 refine lC (oK fo79 rfl rfl rfl (renum_own (canonF t) (tabTo (varsF t) (varsF t).length) _ _ w.heap.size _ G bm hc (fun c hc => .inr hc) hm (fun g => by have := (hGl _ g).1; omega) (tab_i64 _ (lR _) hvl) Lw hB) ?_)
 rintro vq w10 ⟨Mw10, Fw10, hq, hq2, sw10, kw10⟩
 rw [number_tab] at hq
 replace h2 := h2.sp sw10 (kw10.blk b2 ⟨h2.lt, fun g => d_hc_h2 _ g rfl⟩)
 replace hm := hm.sp sw10 (kw10.blk bm ⟨hm.lt, fun g => by have := (hGl _ g).1; omega⟩)
 replace hE := hE.trans sw10.below
 replace hv := hv.sp sw10
 replace h1 := h1.sp sw10
 replace ht := Rep.sp ht sw10
 replace hsub := sw10.sb hsub
 replace Lw := sw10.low
 replace hB := sw10.z hB
 have d_hq_h2 : ∀ x, Fw10 x → x ≠ b2 := fun x hx => (hq2 x hx).2.elim (d_hc_h2 x) (fun h => by omega)
 obtain ⟨kvq, usq, Hq, rfl, opq, nmq, n64q, hknq, hrq, hOq, hHq⟩ := oty_open hq
 refine lC (o_st tK h2.box rfl rfl rfl rfl hq.one rfl rfl ?_)
 intro w11 hw11 qw11 bew11
 have uw11 : UpdB _ _ _ := ⟨qw11, bew11⟩
 have sw11 := uw11.sp h2.inM Lw h2.ge
 have frw11 := qw11.2
 replace hm := hm.sp sw11 (frw11 bm hm.lt ne_h2_hm.symm)
 replace hq := hq.sp sw11 (fun x hx => frw11 x (hq.lt x hx).2 (d_hq_h2 x hx))
 replace hE := hE.trans sw11.below
 replace hv := hv.sp sw11
 replace h1 := h1.sp sw11
 replace ht := Rep.sp ht sw11
 replace hsub := sw11.sb hsub
 replace Lw := sw11.low
 replace hB := sw11.z hB
 replace h2 : MB w.heap.size _ w11 b2 _ [.int .u8 (numberF t).op, .string (numberF t).name, .int .i64 (numberF t).n, kvq] := ⟨hw11, h2.inM, h2.ge⟩
 refine q1 (cR ?_)
 refine x_ret1s tK (fun j v hv => h2.cell j v hv) rfl rfl rfl rfl rfl ?_
 rw [show (rightB t || rowB t) = true from hr]
 exact ⟨hq.mono (fun c h => .inr (hq.lt c h)) (fun c h => h.elim (fun h => h.elim) id), hE⟩
end Go.Proofs.Ytpoahmeacjggfaa
