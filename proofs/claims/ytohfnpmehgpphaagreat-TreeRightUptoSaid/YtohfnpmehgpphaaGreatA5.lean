/- Part 5 of the proof: rules, plain laws and walks, merged out of smaller texts. -/
import Derived.Test.YtohfnpmehgpphaaGreatA4
namespace Go.Proofs.YtohfnpmehgpphaaGreat
open Go Rw Go.RowKit
set_option maxRecDepth 100000
/-- What down does of an expression. -/
def DownC (t : Tm) : Prop := ∀ (K : Nat) (x : BF) (M : Nat → Prop) (w : World) (B : Nat) (v : Value) (np bm fm : Nat) (b : Bool), rightT t b = true → Rep.R M w v t → At M w np 0 [.map (some bm), .map (some fm)] → OM (κ := ByteArray) (fun x : Int => Value.int .i64 x) B M w bm x.1 → OM (κ := ByteArray) (fun x : Bool => Value.bool x) B M w fm x.2 → bm ≠ fm → Low M w → B ≤ w.heap.size → (∀ s, 0 ≤ bnd x.1 s ∧ bnd x.1 s ≤ K) → K + 2 * nsz t ≤ 1000000000 →
  Calls Tryz.prog 34 #[.pointer (some ⟨np, 0, none⟩), v] w (Ret fun r w' => r = .tuple #[] ∧ OM (κ := ByteArray) (fun x : Int => Value.int .i64 x) B M w' bm (downF t x).1 ∧ OM (κ := ByteArray) (fun x : Bool => Value.bool x) B M w' fm (downF t x).2 ∧ Stp B M M w w' ∧ Kept w w' (Out (fun z => z = bm ∨ z = fm) w))
theorem within_of (t : Tm) (hd : DownC t) (l : List ByteArray) (K : Nat) (x : BF) (M : Nat → Prop) (w : World) (B : Nat) (v vl : Value) (np bm fm : Nat) (b : Bool) (hr : rightT t b = true) (ht : Rep.R M w v t) (hs : Sl M w vl l) : At M w np 0 [.map (some bm), .map (some fm)] → OM (κ := ByteArray) (fun x : Int => Value.int .i64 x) B M w bm x.1 → OM (κ := ByteArray) (fun x : Bool => Value.bool x) B M w fm x.2 → bm ≠ fm → Low M w → B ≤ w.heap.size → (∀ s, 0 ≤ bnd x.1 s ∧ bnd x.1 s ≤ K) → l.length ≤ 2 → K + 2 + 2 * nsz t ≤ 1000000000 →
  Calls Tryz.prog 59 #[.pointer (some ⟨np, 0, none⟩), v, vl] w (Ret fun r w' => r = .tuple #[] ∧ OM (κ := ByteArray) (fun x : Int => Value.int .i64 x) B M w' bm (withF (downF t) l x).1 ∧ OM (κ := ByteArray) (fun x : Bool => Value.bool x) B M w' fm (withF (downF t) l x).2 ∧ Stp B M M w w' ∧ Kept w w' (Out (fun z => z = bm ∨ z = fm) w)) := by
 intro hn hm hf hne hlow hB hbx hll hK
 have hT : Stp B M M w w := Stp.refl hlow
 have hfr : Kept w w (Out (fun z => z = bm ∨ z = fm) w) := Kept.refl (fun x hx => hx.1)
 have d_hfr_hm : ∀ x, (Out (fun z => z = bm ∨ z = fm) w) x → x ≠ bm := fun x hx e => hx.2 (.inl e)
 have d_hfr_hf : ∀ x, (Out (fun z => z = bm ∨ z = fm) w) x → x ≠ fm := fun x hx e => hx.2 (.inr e)
 have ne_hm_hf := hne
 obtain ⟨akv, kv, rfl, op, nm, ag, n64, ha, hk⟩ := tm_open ht
 refine c_enter (n := 41) Tryz.func59 rfl rfl rfl ?_
 refine q0 ?_
 refine lC (o_box rfl rfl rfl ?_)
 intro b4 w1 hb_b4 ew1 h4
 replace h4 : Box _ b4 28 [.int .u8 t.op, .string t.name, .string t.arg, .int .i64 t.n, .bool t.has, .int .u8 t.ann.op, .string t.ann.name, .int .i64 t.ann.n, akv, kv] := h4
 replace h4 := h4.at (nM_of hlow hb_b4)
 replace hT := hT.then (Stp.ext ew1 hlow hB)
 replace hfr := hfr.ext hlow hB ew1
 replace hm := hm.ext hlow hB ew1
 replace hf := hf.ext hlow hB ew1
 replace hn := hn.ext ew1
 replace ht := Rep.ext ht ew1
 replace ha := Rep.ext ha ew1
 replace hk := hk.ext ew1
 replace hs := hs.ext ew1
 replace hlow := hlow.ext ew1
 replace hB := ew1.z hB
 refine q1 (c_seq (q0 (l_p 1 tK rfl ?_)))
 refine lC (o_len tK hs rfl rfl rfl rfl rfl ?_)
 refine l_p 1 tK rfl (q1 (c_blk ?_))
 refine c_loop (X := Nat) (fun i => [(0, .pointer (some ⟨np, 0, none⟩)), (2, vl), (10, vl), (11, .int .i64 (l.length : Int)), (12, .int .i64 (i : Nat)), (4, .pointer (some ⟨b4, 0, none⟩))]) (fun i w' => i ≤ l.length ∧ OM (κ := ByteArray) (fun x : Int => Value.int .i64 x) B M w' bm (incs x.1 (l.take i) (1)) ∧ OM (κ := ByteArray) (fun x : Bool => Value.bool x) B M w' fm (x.2) ∧ At M w' np 0 [.map (some bm), .map (some fm)] ∧ Stp B M M w w' ∧ Kept w w' (Out (fun z => z = bm ∨ z = fm) w) ∧ Low M w' ∧ B ≤ w'.heap.size ∧ At M w' b4 0 [.int .u8 t.op, .string t.name, .string t.arg, .int .i64 t.n, .bool t.has, .int .u8 t.ann.op, .string t.ann.name, .int .i64 t.ann.n, akv, kv] ∧ Rep.R M w' (.agg #[.int .u8 t.op, .string t.name, .string t.arg, .int .i64 t.n, .bool t.has, .int .u8 t.ann.op, .string t.ann.name, .int .i64 t.ann.n, akv, kv]) t ∧ Rep.R M w' (.agg #[.int .u8 t.ann.op, .string t.ann.name, .int .i64 t.ann.n, akv]) t.ann ∧ Sl M w' kv t.kids ∧ Sl M w' vl l) (fun i => l.length - i) (0) (s6 rfl rfl rfl rfl rfl rfl) ?_ ?_
 ·exact ⟨Nat.zero_le _, hm, hf, hn, hT, hfr, hlow, hB, h4, ht, ha, hk, hs⟩
 clear hm hf hn hT hfr hlow hB h4 ht ha hk hs
 rintro i w2 ⟨hi, hm, hf, hn, hT, hfr, hlow, hB, h4, ht, ha, hk, hs⟩
 refine q0 (l_p 1 tK rfl (q1 (c_seq ?_)))
 refine c_ifP _ rfl (fun c1 => ?_) (fun c1 => ?_)
 ·refine c_skip (x_seq (c_seq (c_blk (q0 ?_))))
  have hil : i < l.length := by omega
  refine lC (o_ixS tK hs (List.getElem?_eq_getElem hil) rfl rfl rfl rfl rfl rfl rfl rfl rfl ?_)
  intro eb eo eu hr2 hat
  obtain ⟨rfl, _⟩ := hr2
  refine lC (o_ld tK (hat.cell 0 _ rfl) rfl rfl rfl rfl rfl ?_)
  refine l_p 1 tK rfl (q1 (c_reg (l_p 3 tK rfl ?_)))
  refine lC (o_ld tK (hn.cell 0 _ rfl) rfl rfl rfl rfl rfl ?_)
  refine l_p 1 tK rfl ?_
  have hti := times_le (l.take i) l[i]
  have hbi := bnd_incs (1) l[i] (l.take i) (x.1)
  have hbx2 := hbx l[i]
  rw [List.length_take] at hti
  have hg : (getK (incs x.1 (l.take i) (1)) l[i]).getD 0 = bnd (incs x.1 (l.take i) (1)) l[i] := rfl
  refine lC (o_look (z := 0) tK hm.map (k := l[i]) rfl rfl rfl rfl ⟨_, Tryz.underlying9, rfl⟩ rfl rfl rfl rfl ?_)
  refine lC (o_ar rfl rfl rfl (z := bnd (incs x.1 (l.take i) (1)) l[i] + (1)) (by rw [hg]; exact IntWalk.i64_in _ (by omega)) rfl rfl ?_)
  refine lC (o_mupd tK hm.map (k := l[i]) (v := bnd (incs x.1 (l.take i) (1)) l[i] + (1)) rfl rfl rfl rfl rfl ⟨_, Tryz.underlying9, rfl⟩ rfl ?_)
  intro w3 hw3 qw3 bew3
  have uw3 : UpdB _ _ _ := ⟨qw3, bew3⟩
  have sw3 := uw3.stp hm.inM hlow hm.ge
  have frw3 := qw3.2
  replace hT := hT.then sw3
  replace hfr := hfr.stp sw3 (fun x hx => frw3 x (hfr.lt x hx).2 (d_hfr_hm x hx))
  replace hf := hf.stp sw3 (frw3 fm hf.lt ne_hm_hf.symm)
  replace hn := hn.stp sw3
  replace h4 := h4.stp sw3
  replace ht := Rep.stp ht sw3
  replace ha := Rep.stp ha sw3
  replace hk := hk.stp sw3
  replace hs := hs.stp sw3
  replace hlow := sw3.low
  replace hB := sw3.z hB
  replace hm : OM _ _ _ w3 _ (putK (incs x.1 (l.take i) (1)) l[i] (bnd (incs x.1 (l.take i) (1)) l[i] + (1))) := ⟨hw3, hm.inM, hm.ge⟩
  refine q2 (x_seq (c_reg ?_))
  refine lC (o_ai rfl rfl rfl (by omega) rfl rfl ?_)
  refine l_p 1 tK rfl (l_nil ?_)
  exact x_round (i + 1) (s6 rfl rfl rfl rfl (get_num rfl (by omega)) rfl) ⟨by omega, by rw [incs_step hil]; exact hm, hf, hn, hT, hfr, hlow, hB, h4, ht, ha, hk, hs⟩ (by omega)
 refine c_exit (x_seqE (x_seqE (x_blkE (x_seq (q0 (l_p 1 tK rfl ?_))))))
 refine lC (o_lds tK (fun j v hv => h4.cell j v hv) rfl rfl rfl rfl rfl rfl ?_)
 obtain rfl : i = l.length := by omega
 rw [List.take_of_length_le (Nat.le_refl _)] at hm
 have hbk : ∀ s, 0 ≤ bnd (incs x.1 l 1) s ∧ bnd (incs x.1 l 1) s ≤ ((K + 2 : Nat) : Int) := fun s => by
  have h1 := times_le l s
  have h2 := hbx s
  rw [bnd_incs]; omega
 refine lC (o_call fo34 rfl rfl rfl (hd (K + 2) (incs x.1 l 1, x.2) M _ B _ np bm fm b hr ht hn hm hf hne hlow hB hbk (by omega)) ?_)
 rintro _ w4 ⟨rfl, hmw4, hfw4, sw4, kw4⟩
 have frw4 : ∀ x, x < w2.heap.size → ¬ (x = bm ∨ x = fm) → w4.heap[x]? = w2.heap[x]? := fun x hx hn => kw4.blk x ⟨hx, hn⟩
 replace hT := hT.then sw4
 replace hfr := hfr.stp sw4 (fun x hx => frw4 x (hfr.lt x hx).2 hx.2)
 replace hn := hn.stp sw4
 replace h4 := h4.stp sw4
 replace ht := Rep.stp ht sw4
 replace ha := Rep.stp ha sw4
 replace hk := hk.stp sw4
 replace hs := hs.stp sw4
 replace hlow := sw4.low
 replace hB := sw4.z hB
 replace hm := hmw4
 replace hf := hfw4
 clear hmw4 hfw4
 refine q1 (q0 (l_p 1 tK rfl ?_))
 refine lC (o_len tK hs rfl rfl rfl rfl rfl ?_)
 refine l_p 1 tK rfl (q1 (c_blk ?_))
 refine c_loop (X := Nat) (fun i => [(0, .pointer (some ⟨np, 0, none⟩)), (2, vl), (27, vl), (28, .int .i64 (l.length : Int)), (29, .int .i64 (i : Nat))]) (fun i w' => i ≤ l.length ∧ OM (κ := ByteArray) (fun x : Int => Value.int .i64 x) B M w' bm (incs (downF t (incs x.1 l 1, x.2)).1 (l.take i) (-1)) ∧ OM (κ := ByteArray) (fun x : Bool => Value.bool x) B M w' fm ((downF t (incs x.1 l 1, x.2)).2) ∧ At M w' np 0 [.map (some bm), .map (some fm)] ∧ Stp B M M w w' ∧ Kept w w' (Out (fun z => z = bm ∨ z = fm) w) ∧ Low M w' ∧ B ≤ w'.heap.size ∧ Sl M w' vl l) (fun i => l.length - i) (0) (s5 rfl rfl rfl rfl rfl) ?_ ?_
 ·exact ⟨Nat.zero_le _, hm, hf, hn, hT, hfr, hlow, hB, hs⟩
 clear hm hf hn hT hfr hlow hB hs
 rintro i w5 ⟨hi, hm, hf, hn, hT, hfr, hlow, hB, hs⟩
 refine q0 (l_p 1 tK rfl (q1 (c_seq ?_)))
 refine c_ifP _ rfl (fun c2 => ?_) (fun c2 => ?_)
 ·refine c_skip (x_seq (c_seq (c_blk (q0 ?_))))
  have hil : i < l.length := by omega
  refine lC (o_ixS tK hs (List.getElem?_eq_getElem hil) rfl rfl rfl rfl rfl rfl rfl rfl rfl ?_)
  intro eb eo eu hr2 hat
  obtain ⟨rfl, _⟩ := hr2
  refine lC (o_ld tK (hat.cell 0 _ rfl) rfl rfl rfl rfl rfl ?_)
  refine l_p 1 tK rfl (q1 (c_reg (l_p 3 tK rfl ?_)))
  refine lC (o_ld tK (hn.cell 0 _ rfl) rfl rfl rfl rfl rfl ?_)
  refine l_p 1 tK rfl ?_
  have hti := times_le (l.take i) l[i]
  have hbi := bnd_incs (-1) l[i] (l.take i) ((downF t (incs x.1 l 1, x.2)).1)
  have hbx2 := hbx l[i]
  rw [List.length_take] at hti
  have hg : (getK (incs (downF t (incs x.1 l 1, x.2)).1 (l.take i) (-1)) l[i]).getD 0 = bnd (incs (downF t (incs x.1 l 1, x.2)).1 (l.take i) (-1)) l[i] := rfl
  have htl := times_le l l[i]
  have hbd : bnd (downF t (incs x.1 l 1, x.2)).1 l[i] = bnd x.1 l[i] + times l l[i] * 1 := by rw [down_same, bnd_incs]
  refine lC (o_look (z := 0) tK hm.map (k := l[i]) rfl rfl rfl rfl ⟨_, Tryz.underlying9, rfl⟩ rfl rfl rfl rfl ?_)
  refine lC (o_ar rfl rfl rfl (z := bnd (incs (downF t (incs x.1 l 1, x.2)).1 (l.take i) (-1)) l[i] + (-1)) (by rw [hg, show bnd (incs (downF t (incs x.1 l 1, x.2)).1 (l.take i) (-1)) l[i] - 1 = bnd (incs (downF t (incs x.1 l 1, x.2)).1 (l.take i) (-1)) l[i] + (-1) by omega]; exact IntWalk.i64_in _ (by omega)) rfl rfl ?_)
  refine lC (o_mupd tK hm.map (k := l[i]) (v := bnd (incs (downF t (incs x.1 l 1, x.2)).1 (l.take i) (-1)) l[i] + (-1)) rfl rfl rfl rfl rfl ⟨_, Tryz.underlying9, rfl⟩ rfl ?_)
  intro w6 hw6 qw6 bew6
  have uw6 : UpdB _ _ _ := ⟨qw6, bew6⟩
  have sw6 := uw6.stp hm.inM hlow hm.ge
  have frw6 := qw6.2
  replace hT := hT.then sw6
  replace hfr := hfr.stp sw6 (fun x hx => frw6 x (hfr.lt x hx).2 (d_hfr_hm x hx))
  replace hf := hf.stp sw6 (frw6 fm hf.lt ne_hm_hf.symm)
  replace hn := hn.stp sw6
  replace hs := hs.stp sw6
  replace hlow := sw6.low
  replace hB := sw6.z hB
  replace hm : OM _ _ _ w6 _ (putK (incs (downF t (incs x.1 l 1, x.2)).1 (l.take i) (-1)) l[i] (bnd (incs (downF t (incs x.1 l 1, x.2)).1 (l.take i) (-1)) l[i] + (-1))) := ⟨hw6, hm.inM, hm.ge⟩
  refine q2 (x_seq (c_reg ?_))
  refine lC (o_ai rfl rfl rfl (by omega) rfl rfl ?_)
  refine l_p 1 tK rfl (l_nil ?_)
  exact x_round (i + 1) (s5 rfl rfl rfl rfl (get_num rfl (by omega))) ⟨by omega, by rw [incs_step hil]; exact hm, hf, hn, hT, hfr, hlow, hB, hs⟩ (by omega)
 refine c_exit (x_seqE (x_seqE (x_blkE ?_)))
 refine x_ret0n rfl ?_
 obtain rfl : i = l.length := by omega
 rw [List.take_of_length_le (Nat.le_refl _)] at hm
 exact ⟨rfl, hm, hf, hT, hfr⟩
theorem down_spec : ∀ (t : Tm), DownC t := by
 refine Tm.ind fun t ih => ?_
 intro K x M w B v np bm fm b hr ht hn hm hf hne hlow hB hbx hK
 obtain ⟨hrl, hrk, hro, _⟩ := right_kids hr
 have hkz := fun k (hk : k ∈ t.kids) => kid_nsz hk
 have hT : Stp B M M w w := Stp.refl hlow
 have hfr : Kept w w (Out (fun z => z = bm ∨ z = fm) w) := Kept.refl (fun x hx => hx.1)
 have d_hfr_hm : ∀ x, (Out (fun z => z = bm ∨ z = fm) w) x → x ≠ bm := fun x hx e => hx.2 (.inl e)
 have d_hfr_hf : ∀ x, (Out (fun z => z = bm ∨ z = fm) w) x → x ≠ fm := fun x hx e => hx.2 (.inr e)
 have ne_hm_hf := hne
 obtain ⟨akv, kv, rfl, op, nm, ag, n64, ha, hk⟩ := tm_open ht
 have hlt := hk.lt
 refine c_enter (n := 78) Tryz.func34 rfl rfl rfl ?_
 refine q0 ?_
 refine lC (o_box rfl rfl rfl ?_)
 intro b3 w1 hb_b3 ew1 h3
 replace h3 : Box _ b3 28 [.int .u8 t.op, .string t.name, .string t.arg, .int .i64 t.n, .bool t.has, .int .u8 t.ann.op, .string t.ann.name, .int .i64 t.ann.n, akv, kv] := h3
 replace h3 := h3.at (nM_of hlow hb_b3)
 replace hT := hT.then (Stp.ext ew1 hlow hB)
 replace hfr := hfr.ext hlow hB ew1
 replace hm := hm.ext hlow hB ew1
 replace hf := hf.ext hlow hB ew1
 replace hn := hn.ext ew1
 replace ht := Rep.ext ht ew1
 replace ha := Rep.ext ha ew1
 replace hk := hk.ext ew1
 replace hlow := hlow.ext ew1
 replace hB := ew1.z hB
 refine q1 (q0 (l_p 1 tK rfl ?_))
 refine lC (o_ld tK (h3.cell 0 _ rfl) rfl rfl rfl rfl rfl ?_)
 refine q1 (c_blk (q0 (l_p 2 tK rfl (q1 ?_))))
 refine c_ifP _ rfl (fun c1 => ?_) (fun c1 => ?_)
 ·refine c_seq ?_
  refine a_beg Ext rfl ?_
  intro w2 ew2
  replace hT := hT.then (Stp.ext ew2 hlow hB)
  replace hfr := hfr.ext hlow hB ew2
  replace hm := hm.ext hlow hB ew2
  replace hf := hf.ext hlow hB ew2
  replace hn := hn.ext ew2
  replace ht := Rep.ext ht ew2
  replace ha := Rep.ext ha ew2
  replace hk := hk.ext ew2
  replace h3 := h3.ext ew2
  replace hlow := hlow.ext ew2
  replace hB := ew2.z hB
  have hS : Ext w2 w2 := ext_refl _
  have D_hn := hn
  have D_hk := hk
  have D_h3 := h3
  refine a_p 0 tK rfl rfl rfl rfl (by kernel_rfl) (fun _ _ _ h => h) hS ?_
  refine a_p 1 tK rfl rfl rfl rfl (by kernel_rfl) (fun _ _ _ h => h) hS ?_
  refine a_p 2 tK rfl rfl rfl rfl (by kernel_rfl) (fun _ _ _ h => h) hS ?_
  refine a_ld 3 tK (fun _ hs => (D_hn.ext hs).cell 0 _ rfl) rfl rfl rfl rfl rfl rfl (by kernel_rfl) (fun _ _ _ h => h) hS ?_
  refine a_p 4 tK rfl rfl rfl rfl (by kernel_rfl) (fun _ _ _ h => h) hS ?_
  refine a_ld 5 tK (fun _ hs => (D_h3.ext hs).cell 1 _ rfl) rfl rfl rfl rfl rfl rfl (by kernel_rfl) (fun _ _ _ h => h) hS ?_
  refine a_bar 6 rfl (by kernel_rfl) (by kernel_rfl) (o_look (z := 0) tK hm.map (k := t.name) rfl rfl rfl rfl ⟨_, Tryz.underlying9, rfl⟩ rfl rfl rfl rfl ?_)
  refine a_p 7 tK rfl rfl rfl rfl (by kernel_rfl) (fun _ _ _ h => h) hS ?_
  refine a_end (by kernel_rfl) ?_
  refine x_seq ?_
  refine c_ifP _ rfl (fun c2 => ?_) (fun c2 => ?_)
  ·refine a_beg Ext rfl ?_
   intro w3 ew3
   replace hT := hT.then (Stp.ext ew3 hlow hB)
   replace hfr := hfr.ext hlow hB ew3
   replace hm := hm.ext hlow hB ew3
   replace hf := hf.ext hlow hB ew3
   replace hn := hn.ext ew3
   replace ht := Rep.ext ht ew3
   replace ha := Rep.ext ha ew3
   replace hk := hk.ext ew3
   replace h3 := h3.ext ew3
   replace hlow := hlow.ext ew3
   replace hB := ew3.z hB
   have hS : Ext w3 w3 := ext_refl _
   have D_hn := hn
   have D_hk := hk
   have D_h3 := h3
   refine a_p 0 tK rfl rfl rfl rfl (by kernel_rfl) (fun _ _ _ h => h) hS ?_
   refine a_p 1 tK rfl rfl rfl rfl (by kernel_rfl) (fun _ _ _ h => h) hS ?_
   refine a_p 2 tK rfl rfl rfl rfl (by kernel_rfl) (fun _ _ _ h => h) hS ?_
   refine a_ld 3 tK (fun _ hs => (D_hn.ext hs).cell 1 _ rfl) rfl rfl rfl rfl rfl rfl (by kernel_rfl) (fun _ _ _ h => h) hS ?_
   refine a_p 4 tK rfl rfl rfl rfl (by kernel_rfl) (fun _ _ _ h => h) hS ?_
   refine a_ld 5 tK (fun _ hs => (D_h3.ext hs).cell 1 _ rfl) rfl rfl rfl rfl rfl rfl (by kernel_rfl) (fun _ _ _ h => h) hS ?_
   refine a_barS Ext 6 rfl (by kernel_rfl) (by kernel_rfl) (o_mupd tK hf.map (k := t.name) (v := true) rfl rfl rfl rfl rfl ⟨_, Tryz.underlying9, rfl⟩ rfl ?_)
   intro w4 hw4 qw4 bew4
   have uw4 : UpdB _ _ _ := ⟨qw4, bew4⟩
   have sw4 := uw4.stp hf.inM hlow hf.ge
   have frw4 := qw4.2
   replace hT := hT.then sw4
   replace hfr := hfr.stp sw4 (fun x hx => frw4 x (hfr.lt x hx).2 (d_hfr_hf x hx))
   replace hm := hm.stp sw4 (frw4 bm hm.lt ne_hm_hf)
   replace hn := hn.stp sw4
   replace ht := Rep.stp ht sw4
   replace ha := Rep.stp ha sw4
   replace hk := hk.stp sw4
   replace h3 := h3.stp sw4
   replace hlow := sw4.low
   replace hB := sw4.z hB
   replace hS : Ext w4 w4 := ext_refl _
   replace hf : OM _ _ _ w4 _ (putK x.2 t.name true) := ⟨hw4, hf.inM, hf.ge⟩
   have D_hn := hn
   have D_hk := hk
   have D_h3 := h3
   refine a_end (by kernel_rfl) ?_
   refine x_blk ?_
   refine x_ret0n rfl ?_
   have hz0 : bnd x.1 t.name = 0 := by assumption
   rw [down_var (by omega), if_pos hz0]
   exact ⟨rfl, hm, hf, hT, hfr⟩
  refine c_skip (x_blk ?_)
  refine x_ret0n rfl ?_
  have hz0 : ¬ bnd x.1 t.name = 0 := by assumption
  rw [down_var (by omega), if_neg hz0]
  exact ⟨rfl, hm, hf, hT, hfr⟩
 refine c_seq (q0 (l_p 2 tK rfl (q1 ?_)))
 refine c_splitP 35 _ rfl (fun c3 => c_ifT rfl ?_) (fun c3 => c_ifF rfl ?_)
 ·refine c_skip (x_seq (c_ifT rfl ?_))
  refine a_beg Ext rfl ?_
  intro w5 ew5
  replace hT := hT.then (Stp.ext ew5 hlow hB)
  replace hfr := hfr.ext hlow hB ew5
  replace hm := hm.ext hlow hB ew5
  replace hf := hf.ext hlow hB ew5
  replace hn := hn.ext ew5
  replace ht := Rep.ext ht ew5
  replace ha := Rep.ext ha ew5
  replace hk := hk.ext ew5
  replace h3 := h3.ext ew5
  replace hlow := hlow.ext ew5
  replace hB := ew5.z hB
  have hS : Ext w5 w5 := ext_refl _
  have D_hn := hn
  have D_hk := hk
  have D_h3 := h3
  refine a_p 0 tK rfl rfl rfl rfl (by kernel_rfl) (fun _ _ _ h => h) hS ?_
  refine a_p 1 tK rfl rfl rfl rfl (by kernel_rfl) (fun _ _ _ h => h) hS ?_
  refine a_ld 2 tK (fun _ hs => (D_h3.ext hs).cell 9 _ rfl) rfl rfl rfl rfl rfl rfl (by kernel_rfl) (fun _ _ _ h => h) hS ?_
  have hl1 : (t.kids.length : Int) = 1 := by
   have h8 := shp_one (op := t.op) (by omega)
   rw [hrl h8.2, h8.1]
  have h0k : 0 < t.kids.length := by omega
  refine a_ixS 3 tK D_hk (List.getElem?_eq_getElem h0k) rfl rfl rfl rfl rfl rfl rfl rfl rfl rfl (by kernel_rfl) (fun _ _ _ _ h => h) hS ?_
  intro ebx0 eox0 eux0 hyx0 hatx0
  obtain ⟨akvx0, kvx0, rfl, opx0, nmx0, agx0, n64x0, hax0, hkx0⟩ := tm_open hyx0
  replace hatx0 : At M w5 ebx0 eox0 [.int .u8 t.kids[0].op, .string t.kids[0].name, .string t.kids[0].arg, .int .i64 t.kids[0].n, .bool t.kids[0].has, .int .u8 t.kids[0].ann.op, .string t.kids[0].ann.name, .int .i64 t.kids[0].ann.n, akvx0, kvx0] := hatx0
  refine a_lds 4 tK (fun _ hs j v hv => (hatx0.ext hs).cell j v hv) rfl rfl rfl rfl rfl rfl rfl (by kernel_rfl) (fun _ _ _ h => h) hS ?_
  refine a_p 5 tK rfl rfl rfl rfl (by kernel_rfl) (fun _ _ _ h => h) hS ?_
  refine a_ld 6 tK (fun _ hs => (D_h3.ext hs).cell 2 _ rfl) rfl rfl rfl rfl rfl rfl (by kernel_rfl) (fun _ _ _ h => h) hS ?_
  refine a_one 7 rfl (by kernel_rfl) (o_bs tK rfl rfl rfl rfl rfl rfl rfl (sz1 rfl) rfl rfl rfl ?_)
  intro bw6 w6 qbw6 ew6 hbw6
  have nbw6 := nM_of hlow qbw6
  replace hS := hS.then ew6
  replace hT := hT.then (Stp.ext ew6 hlow hB)
  replace hfr := hfr.ext hlow hB ew6
  replace hm := hm.ext hlow hB ew6
  replace hf := hf.ext hlow hB ew6
  replace hn := hn.ext ew6
  replace ht := Rep.ext ht ew6
  replace ha := Rep.ext ha ew6
  replace hk := hk.ext ew6
  replace h3 := h3.ext ew6
  replace hyx0 := Rep.ext hyx0 ew6
  replace hax0 := Rep.ext hax0 ew6
  replace hkx0 := hkx0.ext ew6
  replace hatx0 := hatx0.ext ew6
  replace hlow := hlow.ext ew6
  replace hB := ew6.z hB
  refine ⟨hS, ?_⟩
  have hs : Sl M w6 (.slice (some ⟨bw6, 0, none⟩) 1 1) [t.arg] := lit_sl hbw6 nbw6 (show Rs _ _ [_] [t.arg] from ⟨⟨rfl, ag⟩, trivial⟩) (by simp)
  obtain ⟨bk, hbk⟩ := hrk _ (List.getElem_mem h0k)
  have hz9 := hkz _ (List.getElem_mem h0k)
  refine a_barS Ext 8 rfl (by kernel_rfl) (by kernel_rfl) (o_call fo59 rfl rfl rfl (within_of t.kids[0] (ih _ (List.getElem_mem h0k)) [t.arg] K x M _ B _ _ np bm fm bk hbk hyx0 hs hn hm hf hne hlow hB hbx (by simp) (by omega)) ?_)
  rintro _ w7 ⟨rfl, hmw7, hfw7, sw7, kw7⟩
  have frw7 : ∀ x, x < w6.heap.size → ¬ (x = bm ∨ x = fm) → w7.heap[x]? = w6.heap[x]? := fun x hx hn => kw7.blk x ⟨hx, hn⟩
  replace hT := hT.then sw7
  replace hfr := hfr.stp sw7 (fun x hx => frw7 x (hfr.lt x hx).2 hx.2)
  replace hn := hn.stp sw7
  replace ht := Rep.stp ht sw7
  replace ha := Rep.stp ha sw7
  replace hk := hk.stp sw7
  replace h3 := h3.stp sw7
  replace hyx0 := Rep.stp hyx0 sw7
  replace hax0 := Rep.stp hax0 sw7
  replace hkx0 := hkx0.stp sw7
  replace hatx0 := hatx0.stp sw7
  replace hs := hs.stp sw7
  replace hlow := sw7.low
  replace hB := sw7.z hB
  replace hS : Ext w7 w7 := ext_refl _
  replace hm := hmw7
  replace hf := hfw7
  clear hmw7 hfw7
  have D_hn := hn
  have D_hk := hk
  have D_h3 := h3
  have D_hkx0 := hkx0
  have D_hatx0 := hatx0
  have D_hs := hs
  refine a_end (by kernel_rfl) ?_
  refine x_blk ?_
  refine x_ret0n rfl ?_
  rw [down_one (by omega) h0k]
  exact ⟨rfl, hm, hf, hT, hfr⟩
 refine q0 (l_p 2 tK rfl (q1 ?_))
 refine c_splitP 35 _ rfl (fun c4 => c_ifT rfl ?_) (fun c4 => c_ifF rfl ?_)
 ·refine c_skip (x_seq (c_ifT rfl ?_))
  refine a_beg Ext rfl ?_
  intro w8 ew8
  replace hT := hT.then (Stp.ext ew8 hlow hB)
  replace hfr := hfr.ext hlow hB ew8
  replace hm := hm.ext hlow hB ew8
  replace hf := hf.ext hlow hB ew8
  replace hn := hn.ext ew8
  replace ht := Rep.ext ht ew8
  replace ha := Rep.ext ha ew8
  replace hk := hk.ext ew8
  replace h3 := h3.ext ew8
  replace hlow := hlow.ext ew8
  replace hB := ew8.z hB
  have hS : Ext w8 w8 := ext_refl _
  have D_hn := hn
  have D_hk := hk
  have D_h3 := h3
  refine a_p 0 tK rfl rfl rfl rfl (by kernel_rfl) (fun _ _ _ h => h) hS ?_
  refine a_p 1 tK rfl rfl rfl rfl (by kernel_rfl) (fun _ _ _ h => h) hS ?_
  refine a_ld 2 tK (fun _ hs => (D_h3.ext hs).cell 9 _ rfl) rfl rfl rfl rfl rfl rfl (by kernel_rfl) (fun _ _ _ h => h) hS ?_
  have hl1 : (t.kids.length : Int) = 1 := by
   have h8 := shp_one (op := t.op) (by omega)
   rw [hrl h8.2, h8.1]
  have h0k : 0 < t.kids.length := by omega
  refine a_ixS 3 tK D_hk (List.getElem?_eq_getElem h0k) rfl rfl rfl rfl rfl rfl rfl rfl rfl rfl (by kernel_rfl) (fun _ _ _ _ h => h) hS ?_
  intro ebx0 eox0 eux0 hyx0 hatx0
  obtain ⟨akvx0, kvx0, rfl, opx0, nmx0, agx0, n64x0, hax0, hkx0⟩ := tm_open hyx0
  replace hatx0 : At M w8 ebx0 eox0 [.int .u8 t.kids[0].op, .string t.kids[0].name, .string t.kids[0].arg, .int .i64 t.kids[0].n, .bool t.kids[0].has, .int .u8 t.kids[0].ann.op, .string t.kids[0].ann.name, .int .i64 t.kids[0].ann.n, akvx0, kvx0] := hatx0
  refine a_lds 4 tK (fun _ hs j v hv => (hatx0.ext hs).cell j v hv) rfl rfl rfl rfl rfl rfl rfl (by kernel_rfl) (fun _ _ _ h => h) hS ?_
  refine a_p 5 tK rfl rfl rfl rfl (by kernel_rfl) (fun _ _ _ h => h) hS ?_
  refine a_ld 6 tK (fun _ hs => (D_h3.ext hs).cell 2 _ rfl) rfl rfl rfl rfl rfl rfl (by kernel_rfl) (fun _ _ _ h => h) hS ?_
  refine a_one 7 rfl (by kernel_rfl) (o_bs tK rfl rfl rfl rfl rfl rfl rfl (sz1 rfl) rfl rfl rfl ?_)
  intro bw9 w9 qbw9 ew9 hbw9
  have nbw9 := nM_of hlow qbw9
  replace hS := hS.then ew9
  replace hT := hT.then (Stp.ext ew9 hlow hB)
  replace hfr := hfr.ext hlow hB ew9
  replace hm := hm.ext hlow hB ew9
  replace hf := hf.ext hlow hB ew9
  replace hn := hn.ext ew9
  replace ht := Rep.ext ht ew9
  replace ha := Rep.ext ha ew9
  replace hk := hk.ext ew9
  replace h3 := h3.ext ew9
  replace hyx0 := Rep.ext hyx0 ew9
  replace hax0 := Rep.ext hax0 ew9
  replace hkx0 := hkx0.ext ew9
  replace hatx0 := hatx0.ext ew9
  replace hlow := hlow.ext ew9
  replace hB := ew9.z hB
  refine ⟨hS, ?_⟩
  have hs : Sl M w9 (.slice (some ⟨bw9, 0, none⟩) 1 1) [t.arg] := lit_sl hbw9 nbw9 (show Rs _ _ [_] [t.arg] from ⟨⟨rfl, ag⟩, trivial⟩) (by simp)
  obtain ⟨bk, hbk⟩ := hrk _ (List.getElem_mem h0k)
  have hz9 := hkz _ (List.getElem_mem h0k)
  refine a_barS Ext 8 rfl (by kernel_rfl) (by kernel_rfl) (o_call fo59 rfl rfl rfl (within_of t.kids[0] (ih _ (List.getElem_mem h0k)) [t.arg] K x M _ B _ _ np bm fm bk hbk hyx0 hs hn hm hf hne hlow hB hbx (by simp) (by omega)) ?_)
  rintro _ w10 ⟨rfl, hmw10, hfw10, sw10, kw10⟩
  have frw10 : ∀ x, x < w9.heap.size → ¬ (x = bm ∨ x = fm) → w10.heap[x]? = w9.heap[x]? := fun x hx hn => kw10.blk x ⟨hx, hn⟩
  replace hT := hT.then sw10
  replace hfr := hfr.stp sw10 (fun x hx => frw10 x (hfr.lt x hx).2 hx.2)
  replace hn := hn.stp sw10
  replace ht := Rep.stp ht sw10
  replace ha := Rep.stp ha sw10
  replace hk := hk.stp sw10
  replace h3 := h3.stp sw10
  replace hyx0 := Rep.stp hyx0 sw10
  replace hax0 := Rep.stp hax0 sw10
  replace hkx0 := hkx0.stp sw10
  replace hatx0 := hatx0.stp sw10
  replace hs := hs.stp sw10
  replace hlow := sw10.low
  replace hB := sw10.z hB
  replace hS : Ext w10 w10 := ext_refl _
  replace hm := hmw10
  replace hf := hfw10
  clear hmw10 hfw10
  have D_hn := hn
  have D_hk := hk
  have D_h3 := h3
  have D_hkx0 := hkx0
  have D_hatx0 := hatx0
  have D_hs := hs
  refine a_end (by kernel_rfl) ?_
  refine x_blk ?_
  refine x_ret0n rfl ?_
  rw [down_one (by omega) h0k]
  exact ⟨rfl, hm, hf, hT, hfr⟩
 refine c_reg (l_p 2 tK rfl (q1 ?_))
 refine c_splitP 35 _ rfl (fun c5 => c_ifT rfl ?_) (fun c5 => c_ifF rfl ?_)
 ·refine a_beg Ext rfl ?_
  intro w11 ew11
  replace hT := hT.then (Stp.ext ew11 hlow hB)
  replace hfr := hfr.ext hlow hB ew11
  replace hm := hm.ext hlow hB ew11
  replace hf := hf.ext hlow hB ew11
  replace hn := hn.ext ew11
  replace ht := Rep.ext ht ew11
  replace ha := Rep.ext ha ew11
  replace hk := hk.ext ew11
  replace h3 := h3.ext ew11
  replace hlow := hlow.ext ew11
  replace hB := ew11.z hB
  have hS : Ext w11 w11 := ext_refl _
  have D_hn := hn
  have D_hk := hk
  have D_h3 := h3
  refine a_p 0 tK rfl rfl rfl rfl (by kernel_rfl) (fun _ _ _ h => h) hS ?_
  refine a_p 1 tK rfl rfl rfl rfl (by kernel_rfl) (fun _ _ _ h => h) hS ?_
  refine a_ld 2 tK (fun _ hs => (D_h3.ext hs).cell 9 _ rfl) rfl rfl rfl rfl rfl rfl (by kernel_rfl) (fun _ _ _ h => h) hS ?_
  have hl1 : (t.kids.length : Int) = 1 := by
   have h8 := shp_one (op := t.op) (by omega)
   rw [hrl h8.2, h8.1]
  have h0k : 0 < t.kids.length := by omega
  refine a_ixS 3 tK D_hk (List.getElem?_eq_getElem h0k) rfl rfl rfl rfl rfl rfl rfl rfl rfl rfl (by kernel_rfl) (fun _ _ _ _ h => h) hS ?_
  intro ebx0 eox0 eux0 hyx0 hatx0
  obtain ⟨akvx0, kvx0, rfl, opx0, nmx0, agx0, n64x0, hax0, hkx0⟩ := tm_open hyx0
  replace hatx0 : At M w11 ebx0 eox0 [.int .u8 t.kids[0].op, .string t.kids[0].name, .string t.kids[0].arg, .int .i64 t.kids[0].n, .bool t.kids[0].has, .int .u8 t.kids[0].ann.op, .string t.kids[0].ann.name, .int .i64 t.kids[0].ann.n, akvx0, kvx0] := hatx0
  refine a_lds 4 tK (fun _ hs j v hv => (hatx0.ext hs).cell j v hv) rfl rfl rfl rfl rfl rfl rfl (by kernel_rfl) (fun _ _ _ h => h) hS ?_
  refine a_p 5 tK rfl rfl rfl rfl (by kernel_rfl) (fun _ _ _ h => h) hS ?_
  refine a_ld 6 tK (fun _ hs => (D_h3.ext hs).cell 2 _ rfl) rfl rfl rfl rfl rfl rfl (by kernel_rfl) (fun _ _ _ h => h) hS ?_
  refine a_one 7 rfl (by kernel_rfl) (o_bs tK rfl rfl rfl rfl rfl rfl rfl (sz1 rfl) rfl rfl rfl ?_)
  intro bw12 w12 qbw12 ew12 hbw12
  have nbw12 := nM_of hlow qbw12
  replace hS := hS.then ew12
  replace hT := hT.then (Stp.ext ew12 hlow hB)
  replace hfr := hfr.ext hlow hB ew12
  replace hm := hm.ext hlow hB ew12
  replace hf := hf.ext hlow hB ew12
  replace hn := hn.ext ew12
  replace ht := Rep.ext ht ew12
  replace ha := Rep.ext ha ew12
  replace hk := hk.ext ew12
  replace h3 := h3.ext ew12
  replace hyx0 := Rep.ext hyx0 ew12
  replace hax0 := Rep.ext hax0 ew12
  replace hkx0 := hkx0.ext ew12
  replace hatx0 := hatx0.ext ew12
  replace hlow := hlow.ext ew12
  replace hB := ew12.z hB
  refine ⟨hS, ?_⟩
  have hs : Sl M w12 (.slice (some ⟨bw12, 0, none⟩) 1 1) [t.arg] := lit_sl hbw12 nbw12 (show Rs _ _ [_] [t.arg] from ⟨⟨rfl, ag⟩, trivial⟩) (by simp)
  obtain ⟨bk, hbk⟩ := hrk _ (List.getElem_mem h0k)
  have hz9 := hkz _ (List.getElem_mem h0k)
  refine a_barS Ext 8 rfl (by kernel_rfl) (by kernel_rfl) (o_call fo59 rfl rfl rfl (within_of t.kids[0] (ih _ (List.getElem_mem h0k)) [t.arg] K x M _ B _ _ np bm fm bk hbk hyx0 hs hn hm hf hne hlow hB hbx (by simp) (by omega)) ?_)
  rintro _ w13 ⟨rfl, hmw13, hfw13, sw13, kw13⟩
  have frw13 : ∀ x, x < w12.heap.size → ¬ (x = bm ∨ x = fm) → w13.heap[x]? = w12.heap[x]? := fun x hx hn => kw13.blk x ⟨hx, hn⟩
  replace hT := hT.then sw13
  replace hfr := hfr.stp sw13 (fun x hx => frw13 x (hfr.lt x hx).2 hx.2)
  replace hn := hn.stp sw13
  replace ht := Rep.stp ht sw13
  replace ha := Rep.stp ha sw13
  replace hk := hk.stp sw13
  replace h3 := h3.stp sw13
  replace hyx0 := Rep.stp hyx0 sw13
  replace hax0 := Rep.stp hax0 sw13
  replace hkx0 := hkx0.stp sw13
  replace hatx0 := hatx0.stp sw13
  replace hs := hs.stp sw13
  replace hlow := sw13.low
  replace hB := sw13.z hB
  replace hS : Ext w13 w13 := ext_refl _
  replace hm := hmw13
  replace hf := hfw13
  clear hmw13 hfw13
  have D_hn := hn
  have D_hk := hk
  have D_h3 := h3
  have D_hkx0 := hkx0
  have D_hatx0 := hatx0
  have D_hs := hs
  refine a_end (by kernel_rfl) ?_
  refine x_blk ?_
  refine x_ret0n rfl ?_
  rw [down_one (by omega) h0k]
  exact ⟨rfl, hm, hf, hT, hfr⟩
 refine q0 (l_p 2 tK rfl (q1 ?_))
 refine c_ifP _ rfl (fun c6 => ?_) (fun c6 => ?_)
 ·refine a_beg Ext rfl ?_
  intro w14 ew14
  replace hT := hT.then (Stp.ext ew14 hlow hB)
  replace hfr := hfr.ext hlow hB ew14
  replace hm := hm.ext hlow hB ew14
  replace hf := hf.ext hlow hB ew14
  replace hn := hn.ext ew14
  replace ht := Rep.ext ht ew14
  replace ha := Rep.ext ha ew14
  replace hk := hk.ext ew14
  replace h3 := h3.ext ew14
  replace hlow := hlow.ext ew14
  replace hB := ew14.z hB
  have hS : Ext w14 w14 := ext_refl _
  have D_hn := hn
  have D_hk := hk
  have D_h3 := h3
  refine a_p 0 tK rfl rfl rfl rfl (by kernel_rfl) (fun _ _ _ h => h) hS ?_
  refine a_p 1 tK rfl rfl rfl rfl (by kernel_rfl) (fun _ _ _ h => h) hS ?_
  refine a_ld 2 tK (fun _ hs => (D_h3.ext hs).cell 9 _ rfl) rfl rfl rfl rfl rfl rfl (by kernel_rfl) (fun _ _ _ h => h) hS ?_
  have hl1 : (t.kids.length : Int) = 1 := by
   have h8 := shp_one (op := t.op) (by omega)
   rw [hrl h8.2, h8.1]
  have h0k : 0 < t.kids.length := by omega
  refine a_ixS 3 tK D_hk (List.getElem?_eq_getElem h0k) rfl rfl rfl rfl rfl rfl rfl rfl rfl rfl (by kernel_rfl) (fun _ _ _ _ h => h) hS ?_
  intro ebx0 eox0 eux0 hyx0 hatx0
  obtain ⟨akvx0, kvx0, rfl, opx0, nmx0, agx0, n64x0, hax0, hkx0⟩ := tm_open hyx0
  replace hatx0 : At M w14 ebx0 eox0 [.int .u8 t.kids[0].op, .string t.kids[0].name, .string t.kids[0].arg, .int .i64 t.kids[0].n, .bool t.kids[0].has, .int .u8 t.kids[0].ann.op, .string t.kids[0].ann.name, .int .i64 t.kids[0].ann.n, akvx0, kvx0] := hatx0
  refine a_lds 4 tK (fun _ hs j v hv => (hatx0.ext hs).cell j v hv) rfl rfl rfl rfl rfl rfl rfl (by kernel_rfl) (fun _ _ _ h => h) hS ?_
  refine a_p 5 tK rfl rfl rfl rfl (by kernel_rfl) (fun _ _ _ h => h) hS ?_
  refine a_ld 6 tK (fun _ hs => (D_h3.ext hs).cell 1 _ rfl) rfl rfl rfl rfl rfl rfl (by kernel_rfl) (fun _ _ _ h => h) hS ?_
  refine a_p 7 tK rfl rfl rfl rfl (by kernel_rfl) (fun _ _ _ h => h) hS ?_
  refine a_ld 8 tK (fun _ hs => (D_h3.ext hs).cell 2 _ rfl) rfl rfl rfl rfl rfl rfl (by kernel_rfl) (fun _ _ _ h => h) hS ?_
  refine a_one 9 rfl (by kernel_rfl) (o_bs tK rfl rfl rfl rfl rfl rfl rfl (by intro v hv; simp at hv; rcases hv with rfl | rfl <;> rfl) rfl rfl rfl ?_)
  intro bw15 w15 qbw15 ew15 hbw15
  have nbw15 := nM_of hlow qbw15
  replace hS := hS.then ew15
  replace hT := hT.then (Stp.ext ew15 hlow hB)
  replace hfr := hfr.ext hlow hB ew15
  replace hm := hm.ext hlow hB ew15
  replace hf := hf.ext hlow hB ew15
  replace hn := hn.ext ew15
  replace ht := Rep.ext ht ew15
  replace ha := Rep.ext ha ew15
  replace hk := hk.ext ew15
  replace h3 := h3.ext ew15
  replace hyx0 := Rep.ext hyx0 ew15
  replace hax0 := Rep.ext hax0 ew15
  replace hkx0 := hkx0.ext ew15
  replace hatx0 := hatx0.ext ew15
  replace hlow := hlow.ext ew15
  replace hB := ew15.z hB
  refine ⟨hS, ?_⟩
  have hs : Sl M w15 (.slice (some ⟨bw15, 0, none⟩) 2 2) [t.name, t.arg] := lit_sl hbw15 nbw15 (show Rs _ _ [_, _] [t.name, t.arg] from ⟨⟨rfl, nm⟩, ⟨rfl, ag⟩, trivial⟩) (by simp)
  obtain ⟨bk, hbk⟩ := hrk _ (List.getElem_mem h0k)
  have hz9 := hkz _ (List.getElem_mem h0k)
  refine a_barS Ext 10 rfl (by kernel_rfl) (by kernel_rfl) (o_call fo59 rfl rfl rfl (within_of t.kids[0] (ih _ (List.getElem_mem h0k)) [t.name, t.arg] K x M _ B _ _ np bm fm bk hbk hyx0 hs hn hm hf hne hlow hB hbx (by simp) (by omega)) ?_)
  rintro _ w16 ⟨rfl, hmw16, hfw16, sw16, kw16⟩
  have frw16 : ∀ x, x < w15.heap.size → ¬ (x = bm ∨ x = fm) → w16.heap[x]? = w15.heap[x]? := fun x hx hn => kw16.blk x ⟨hx, hn⟩
  replace hT := hT.then sw16
  replace hfr := hfr.stp sw16 (fun x hx => frw16 x (hfr.lt x hx).2 hx.2)
  replace hn := hn.stp sw16
  replace ht := Rep.stp ht sw16
  replace ha := Rep.stp ha sw16
  replace hk := hk.stp sw16
  replace h3 := h3.stp sw16
  replace hyx0 := Rep.stp hyx0 sw16
  replace hax0 := Rep.stp hax0 sw16
  replace hkx0 := hkx0.stp sw16
  replace hatx0 := hatx0.stp sw16
  replace hs := hs.stp sw16
  replace hlow := sw16.low
  replace hB := sw16.z hB
  replace hS : Ext w16 w16 := ext_refl _
  replace hm := hmw16
  replace hf := hfw16
  clear hmw16 hfw16
  have D_hn := hn
  have D_hk := hk
  have D_h3 := h3
  have D_hkx0 := hkx0
  have D_hatx0 := hatx0
  have D_hs := hs
  refine a_end (by kernel_rfl) ?_
  refine x_blk ?_
  refine x_ret0n rfl ?_
  rw [down_rec (by omega) h0k]
  exact ⟨rfl, hm, hf, hT, hfr⟩
 refine q0 (l_p 2 tK rfl (q1 ?_))
 refine c_ifP _ rfl (fun c7 => ?_) (fun c7 => ?_)
 ·refine q0 (l_p 2 tK rfl ?_)
  refine lC (o_ld tK (h3.cell 9 _ rfl) rfl rfl rfl rfl rfl ?_)
  have hl1 : (t.kids.length : Int) = 2 := by
   have h8 := shp_two (op := t.op) (by omega)
   rw [hrl h8.2, h8.1]
  have h0k : 0 < t.kids.length := by omega
  refine lC (o_ixS tK hk (List.getElem?_eq_getElem h0k) rfl rfl rfl rfl rfl rfl rfl rfl rfl ?_)
  intro ebx0 eox0 eux0 hyx0 hatx0
  obtain ⟨akvx0, kvx0, rfl, opx0, nmx0, agx0, n64x0, hax0, hkx0⟩ := tm_open hyx0
  replace hatx0 : At M w1 ebx0 eox0 [.int .u8 t.kids[0].op, .string t.kids[0].name, .string t.kids[0].arg, .int .i64 t.kids[0].n, .bool t.kids[0].has, .int .u8 t.kids[0].ann.op, .string t.kids[0].ann.name, .int .i64 t.kids[0].ann.n, akvx0, kvx0] := hatx0
  refine lC (o_lds tK (fun j v hv => hatx0.cell j v hv) rfl rfl rfl rfl rfl rfl ?_)
  obtain ⟨bk0, hbk0⟩ := hrk _ (List.getElem_mem h0k)
  have hz8 := hkz _ (List.getElem_mem h0k)
  refine lC (o_call fo34 rfl rfl rfl (ih _ (List.getElem_mem h0k) K x M _ B _ np bm fm bk0 hbk0 hyx0 hn hm hf hne hlow hB hbx (by omega)) ?_)
  rintro _ w17 ⟨rfl, hmw17, hfw17, sw17, kw17⟩
  have frw17 : ∀ x, x < w1.heap.size → ¬ (x = bm ∨ x = fm) → w17.heap[x]? = w1.heap[x]? := fun x hx hn => kw17.blk x ⟨hx, hn⟩
  replace hT := hT.then sw17
  replace hfr := hfr.stp sw17 (fun x hx => frw17 x (hfr.lt x hx).2 hx.2)
  replace hn := hn.stp sw17
  replace ht := Rep.stp ht sw17
  replace ha := Rep.stp ha sw17
  replace hk := hk.stp sw17
  replace h3 := h3.stp sw17
  replace hyx0 := Rep.stp hyx0 sw17
  replace hax0 := Rep.stp hax0 sw17
  replace hkx0 := hkx0.stp sw17
  replace hatx0 := hatx0.stp sw17
  replace hlow := sw17.low
  replace hB := sw17.z hB
  replace hm := hmw17
  replace hf := hfw17
  clear hmw17 hfw17
  refine q1 ?_
  refine a_beg Ext rfl ?_
  intro w18 ew18
  replace hT := hT.then (Stp.ext ew18 hlow hB)
  replace hfr := hfr.ext hlow hB ew18
  replace hm := hm.ext hlow hB ew18
  replace hf := hf.ext hlow hB ew18
  replace hn := hn.ext ew18
  replace ht := Rep.ext ht ew18
  replace ha := Rep.ext ha ew18
  replace hk := hk.ext ew18
  replace h3 := h3.ext ew18
  replace hyx0 := Rep.ext hyx0 ew18
  replace hax0 := Rep.ext hax0 ew18
  replace hkx0 := hkx0.ext ew18
  replace hatx0 := hatx0.ext ew18
  replace hlow := hlow.ext ew18
  replace hB := ew18.z hB
  have hS : Ext w18 w18 := ext_refl _
  have D_hn := hn
  have D_hk := hk
  have D_h3 := h3
  have D_hkx0 := hkx0
  have D_hatx0 := hatx0
  refine a_p 0 tK rfl rfl rfl rfl (by kernel_rfl) (fun _ _ _ h => h) hS ?_
  refine a_p 1 tK rfl rfl rfl rfl (by kernel_rfl) (fun _ _ _ h => h) hS ?_
  refine a_ld 2 tK (fun _ hs => (D_h3.ext hs).cell 9 _ rfl) rfl rfl rfl rfl rfl rfl (by kernel_rfl) (fun _ _ _ h => h) hS ?_
  have h1k : 1 < t.kids.length := by omega
  refine a_ixS 3 tK D_hk (List.getElem?_eq_getElem h1k) rfl rfl rfl rfl rfl rfl rfl rfl rfl rfl (by kernel_rfl) (fun _ _ _ _ h => h) hS ?_
  intro ebx1 eox1 eux1 hyx1 hatx1
  obtain ⟨akvx1, kvx1, rfl, opx1, nmx1, agx1, n64x1, hax1, hkx1⟩ := tm_open hyx1
  replace hatx1 : At M w18 ebx1 eox1 [.int .u8 t.kids[1].op, .string t.kids[1].name, .string t.kids[1].arg, .int .i64 t.kids[1].n, .bool t.kids[1].has, .int .u8 t.kids[1].ann.op, .string t.kids[1].ann.name, .int .i64 t.kids[1].ann.n, akvx1, kvx1] := hatx1
  refine a_lds 4 tK (fun _ hs j v hv => (hatx1.ext hs).cell j v hv) rfl rfl rfl rfl rfl rfl rfl (by kernel_rfl) (fun _ _ _ h => h) hS ?_
  refine a_p 5 tK rfl rfl rfl rfl (by kernel_rfl) (fun _ _ _ h => h) hS ?_
  refine a_ld 6 tK (fun _ hs => (D_h3.ext hs).cell 1 _ rfl) rfl rfl rfl rfl rfl rfl (by kernel_rfl) (fun _ _ _ h => h) hS ?_
  refine a_one 7 rfl (by kernel_rfl) (o_bs tK rfl rfl rfl rfl rfl rfl rfl (sz1 rfl) rfl rfl rfl ?_)
  intro bw19 w19 qbw19 ew19 hbw19
  have nbw19 := nM_of hlow qbw19
  replace hS := hS.then ew19
  replace hT := hT.then (Stp.ext ew19 hlow hB)
  replace hfr := hfr.ext hlow hB ew19
  replace hm := hm.ext hlow hB ew19
  replace hf := hf.ext hlow hB ew19
  replace hn := hn.ext ew19
  replace ht := Rep.ext ht ew19
  replace ha := Rep.ext ha ew19
  replace hk := hk.ext ew19
  replace h3 := h3.ext ew19
  replace hyx0 := Rep.ext hyx0 ew19
  replace hax0 := Rep.ext hax0 ew19
  replace hkx0 := hkx0.ext ew19
  replace hatx0 := hatx0.ext ew19
  replace hyx1 := Rep.ext hyx1 ew19
  replace hax1 := Rep.ext hax1 ew19
  replace hkx1 := hkx1.ext ew19
  replace hatx1 := hatx1.ext ew19
  replace hlow := hlow.ext ew19
  replace hB := ew19.z hB
  refine ⟨hS, ?_⟩
  have hs : Sl M w19 (.slice (some ⟨bw19, 0, none⟩) 1 1) [t.name] := lit_sl hbw19 nbw19 (show Rs _ _ [_] [t.name] from ⟨⟨rfl, nm⟩, trivial⟩) (by simp)
  obtain ⟨bk, hbk⟩ := hrk _ (List.getElem_mem h1k)
  have hz9 := hkz _ (List.getElem_mem h1k)
  refine a_barS Ext 8 rfl (by kernel_rfl) (by kernel_rfl) (o_call fo59 rfl rfl rfl (within_of t.kids[1] (ih _ (List.getElem_mem h1k)) [t.name] K (downF t.kids[0] x) M _ B _ _ np bm fm bk hbk hyx1 hs hn hm hf hne hlow hB (fun s => by rw [down_same]; exact hbx s) (by simp) (by omega)) ?_)
  rintro _ w20 ⟨rfl, hmw20, hfw20, sw20, kw20⟩
  have frw20 : ∀ x, x < w19.heap.size → ¬ (x = bm ∨ x = fm) → w20.heap[x]? = w19.heap[x]? := fun x hx hn => kw20.blk x ⟨hx, hn⟩
  replace hT := hT.then sw20
  replace hfr := hfr.stp sw20 (fun x hx => frw20 x (hfr.lt x hx).2 hx.2)
  replace hn := hn.stp sw20
  replace ht := Rep.stp ht sw20
  replace ha := Rep.stp ha sw20
  replace hk := hk.stp sw20
  replace h3 := h3.stp sw20
  replace hyx0 := Rep.stp hyx0 sw20
  replace hax0 := Rep.stp hax0 sw20
  replace hkx0 := hkx0.stp sw20
  replace hatx0 := hatx0.stp sw20
  replace hyx1 := Rep.stp hyx1 sw20
  replace hax1 := Rep.stp hax1 sw20
  replace hkx1 := hkx1.stp sw20
  replace hatx1 := hatx1.stp sw20
  replace hs := hs.stp sw20
  replace hlow := sw20.low
  replace hB := sw20.z hB
  replace hS : Ext w20 w20 := ext_refl _
  replace hm := hmw20
  replace hf := hfw20
  clear hmw20 hfw20
  have D_hn := hn
  have D_hk := hk
  have D_h3 := h3
  have D_hkx0 := hkx0
  have D_hatx0 := hatx0
  have D_hkx1 := hkx1
  have D_hatx1 := hatx1
  have D_hs := hs
  refine a_end (by kernel_rfl) ?_
  refine x_blk ?_
  refine x_ret0n rfl ?_
  rw [down_let (by omega) h1k]
  exact ⟨rfl, hm, hf, hT, hfr⟩
 refine q0 (l_p 1 tK rfl ?_)
 refine lC (o_ld tK (h3.cell 9 _ rfl) rfl rfl rfl rfl rfl ?_)
 refine lC (o_len tK hk rfl rfl rfl rfl rfl ?_)
 refine l_p 1 tK rfl (q1 (c_blk ?_))
 refine c_loop (X := Nat) (fun i => [(0, .pointer (some ⟨np, 0, none⟩)), (9, kv), (10, .int .i64 (t.kids.length : Int)), (11, .int .i64 (i : Nat))]) (fun i w' => i ≤ t.kids.length ∧ OM (κ := ByteArray) (fun x : Int => Value.int .i64 x) B M w' bm ((foldD (t.kids.take i) x).1) ∧ OM (κ := ByteArray) (fun x : Bool => Value.bool x) B M w' fm ((foldD (t.kids.take i) x).2) ∧ At M w' np 0 [.map (some bm), .map (some fm)] ∧ Stp B M M w w' ∧ Kept w w' (Out (fun z => z = bm ∨ z = fm) w) ∧ Low M w' ∧ B ≤ w'.heap.size ∧ Sl M w' kv t.kids) (fun i => t.kids.length - i) (0) (s4 rfl rfl rfl rfl) ?_ ?_
 ·exact ⟨Nat.zero_le _, hm, hf, hn, hT, hfr, hlow, hB, hk⟩
 clear hm hf hn hT hfr hlow hB hk ht ha h3
 rintro i w21 ⟨hi, hm, hf, hn, hT, hfr, hlow, hB, hk⟩
 refine q0 (l_p 1 tK rfl (q1 (c_seq ?_)))
 refine c_ifP _ rfl (fun c8 => ?_) (fun c8 => ?_)
 ·refine c_skip (x_seq (c_seq (c_blk (q0 ?_))))
  have hik : i < t.kids.length := by omega
  refine lC (o_ixS tK hk (List.getElem?_eq_getElem hik) rfl rfl rfl rfl rfl rfl rfl rfl rfl ?_)
  intro ebx eox eux hyx hatx
  obtain ⟨akvx, kvx, rfl, opx, nmx, agx, n64x, hax, hkx⟩ := tm_open hyx
  replace hatx : At M w21 ebx eox [.int .u8 t.kids[i].op, .string t.kids[i].name, .string t.kids[i].arg, .int .i64 t.kids[i].n, .bool t.kids[i].has, .int .u8 t.kids[i].ann.op, .string t.kids[i].ann.name, .int .i64 t.kids[i].ann.n, akvx, kvx] := hatx
  refine lC (o_lds tK (fun j v hv => hatx.cell j v hv) rfl rfl rfl rfl rfl rfl ?_)
  refine lC (o_new tK rfl rfl rfl ?_)
  intro b5 w22 qb5 ew22 hb5
  have nb5 := nM_of hlow qb5
  refine lC (o_st tK hb5 rfl rfl rfl rfl (Rep.one hyx) rfl rfl ?_)
  intro w23 h5 uw23 bew23
  have ew23 : Ext w21 w23 := ew22.trans (bew23 _ (Nat.le_of_eq qb5.symm))
  replace hT := hT.then (Stp.ext ew23 hlow hB)
  replace hfr := hfr.ext hlow hB ew23
  replace hm := hm.ext hlow hB ew23
  replace hf := hf.ext hlow hB ew23
  replace hn := hn.ext ew23
  replace hk := hk.ext ew23
  replace hyx := Rep.ext hyx ew23
  replace hax := Rep.ext hax ew23
  replace hkx := hkx.ext ew23
  replace hatx := hatx.ext ew23
  replace hlow := hlow.ext ew23
  replace hB := ew23.z hB
  replace h5 : Box w23 b5 28 [.int .u8 t.kids[i].op, .string t.kids[i].name, .string t.kids[i].arg, .int .i64 t.kids[i].n, .bool t.kids[i].has, .int .u8 t.kids[i].ann.op, .string t.kids[i].ann.name, .int .i64 t.kids[i].ann.n, akvx, kvx] := h5
  replace h5 := h5.at nb5
  refine q1 (c_reg (l_p 1 tK rfl ?_))
  refine lC (o_lds tK (fun j v hv => h5.cell j v hv) rfl rfl rfl rfl rfl rfl ?_)
  obtain ⟨bk, hbk⟩ := hrk _ (List.getElem_mem hik)
  have hz9 := hkz _ (List.getElem_mem hik)
  refine lC (o_call fo34 rfl rfl rfl (ih _ (List.getElem_mem hik) K (foldD (t.kids.take i) x) M _ B _ np bm fm bk hbk hyx hn hm hf hne hlow hB (fun s => by rw [foldD_same]; exact hbx s) (by omega)) ?_)
  rintro _ w24 ⟨rfl, hmw24, hfw24, sw24, kw24⟩
  have frw24 : ∀ x, x < w23.heap.size → ¬ (x = bm ∨ x = fm) → w24.heap[x]? = w23.heap[x]? := fun x hx hn => kw24.blk x ⟨hx, hn⟩
  replace hT := hT.then sw24
  replace hfr := hfr.stp sw24 (fun x hx => frw24 x (hfr.lt x hx).2 hx.2)
  replace hn := hn.stp sw24
  replace hk := hk.stp sw24
  replace hyx := Rep.stp hyx sw24
  replace hax := Rep.stp hax sw24
  replace hkx := hkx.stp sw24
  replace hatx := hatx.stp sw24
  replace h5 := h5.stp sw24
  replace hlow := sw24.low
  replace hB := sw24.z hB
  replace hm := hmw24
  replace hf := hfw24
  clear hmw24 hfw24
  refine q2 (x_seq (c_reg ?_))
  refine lC (o_ai rfl rfl rfl (by omega) rfl rfl ?_)
  refine l_p 1 tK rfl (l_nil ?_)
  exact x_round (i + 1) (s4 rfl rfl rfl (get_num rfl (by omega))) ⟨by omega, by rw [foldD_step hik]; exact hm, by rw [foldD_step hik]; exact hf, hn, hT, hfr, hlow, hB, hk⟩ (by omega)
 refine c_exit (x_seqE (x_seqE (x_blkE (x_blk ?_))))
 refine x_ret0n rfl ?_
 obtain rfl : i = t.kids.length := by omega
 rw [List.take_of_length_le (Nat.le_refl _)] at hm hf
 rw [down_else (by omega)]
 exact ⟨rfl, hm, hf, hT, hfr⟩
end Go.Proofs.YtohfnpmehgpphaaGreat
namespace Rw
open Go Go.RowKit
def strT (x : List UInt8) : ByteArray := ⟨x.toArray⟩
/-- Texts, sorted. -/
def sortB (l : List ByteArray) : List ByteArray := ((l.map (·.data.toList)).mergeSort leB).map strT
theorem strT_data (s : ByteArray) : strT s.data.toList = s := by cases s; simp [strT]
theorem sortB_perm (l : List ByteArray) : (sortB l).Perm l := by
  have h := ((List.mergeSort_perm (l.map (·.data.toList)) leB)).map strT
  rw [List.map_map, show (strT ∘ fun x : ByteArray => x.data.toList) = id from funext strT_data, List.map_id] at h
  exact h
theorem sort_of_perm {ss : List (List UInt8)} {l : List ByteArray} (h : ss.Perm (l.map (·.data.toList))) : (ss.mergeSort leB).map strT = sortB l := by
  rw [sortB, mergeSort_of_perm h]
section
variable {ν : Type} {va : ν → Value} {w : World} {b : Nat} {l : List (ByteArray × ν)} {P : Program} {k : TypeId}
theorem maps_own (hk : P.underlying k = some .string) (hm : MapL va w b l) (hl : l.length ≤ maxLen) (hs : ∀ p ∈ l, p.1.size ≤ maxLen) :
    ∃ D : DataW Unit, w.ownsMap P k (fun _ => some (.nil, [])) b l.length D ∧ Maps.size D = l.length ∧ (strKeys D).Perm (l.map (·.1.data.toList)) := by
  obtain ⟨es, clock, hb, hl2, hborn, hnd⟩ := hm.ex
  have hsz : es.size = l.length := by have := congrArg List.length hl2; simpa using this
  have hkeys : es.toList.map (·.key) = l.map (fun p => Value.string p.1) := by
    have := congrArg (List.map Prod.fst) hl2
    simpa [List.map_map, Function.comp_def, Key.val] using this
  have hkey : ∀ s : ByteArray, s.size ≤ maxLen → keyOf P k (.string s) = some (.string s.data.toList) := by
    intro s hs
    simp [keyOf, hk, mapKey, hs]
  have hrd : ∀ x ∈ es.toList, ∃ s : ByteArray, x.key = .string s ∧ WideElems.rd P k (fun _ => some ((.nil : DataW Unit), [])) x = some (.string s.data.toList, .nil) := by
    intro x hx
    have h1 : x.key ∈ l.map (fun p => Value.string p.1) := by rw [← hkeys]; exact List.mem_map.2 ⟨x, hx, rfl⟩
    obtain ⟨p, hp, he⟩ := List.mem_map.1 h1
    refine ⟨p.1, he.symm, ?_⟩
    unfold WideElems.rd
    rw [← he, hkey _ (hs p hp)]
    rfl
  have hmap : es.toList.map (fun x => strOf (WideElems.rg P k (fun _ => some ((.nil : DataW Unit), [])) x).1) = l.map (·.1.data.toList) := by
    have h2 : es.toList.map (fun x => strOf (WideElems.rg P k (fun _ => some ((.nil : DataW Unit), [])) x).1) = (es.toList.map (·.key)).map (fun v => match v with | .string s => s.data.toList | _ => []) := by
      rw [List.map_map]
      refine List.map_congr_left fun x hx => ?_
      obtain ⟨s, h3, h4⟩ := hrd x hx
      simp [WideElems.rg, h4, h3, strOf]
    rw [h2, hkeys, List.map_map]
    rfl
  refine ⟨.map ((es.toList.map (WideElems.rg P k (fun _ => some ((.nil : DataW Unit), [])))).foldr DataW.insert []), ⟨es, clock, hb, ⟨by omega, ⟨hborn, hnd, ?_⟩, fun x hx => let ⟨s, _, h⟩ := hrd x hx; ⟨_, h⟩⟩, by omega, rfl⟩, ?_, ?_⟩
  · rw [hkeys]
    have := hm.keys
    rw [show l.map (fun p => Value.string p.1) = (l.map (·.1)).map Value.string by rw [List.map_map]; rfl]
    exact (List.pairwise_map.2 (this.imp fun h e => h (by injection e)))
  · rw [Maps.size_eq, length_sorted, List.length_map, Array.length_toList, hsz]
  · show (List.map (fun p : Lit × DataW Unit => strOf p.1) _).Perm _
    rw [← hmap]
    have hins : ∀ L : List (Lit × DataW Unit), (L.foldr DataW.insert []).Perm L := by
      intro L
      induction L with
      | nil => exact .refl _
      | cons x L ih =>
        have h1 : ∀ (x : Lit × DataW Unit) (r : List (Lit × DataW Unit)), (DataW.insert x r).Perm (x :: r) := by
          intro x r
          induction r with
          | nil => exact .refl _
          | cons y r ihr =>
            unfold DataW.insert
            split
            · exact .refl _
            · exact (ihr.cons y).trans (.swap _ _ _)
        exact (h1 _ _).trans (ih.cons x)
    have := (hins (es.toList.map (WideElems.rg P k (fun _ => some ((.nil : DataW Unit), []))))).map (fun p => strOf p.1)
    rwa [List.map_map] at this
end
theorem row_texts {e B : Nat} {M : Nat → Prop} {w : World} {v : Value} {l : List ByteArray} (h : w.ownsRow B e 1 v l.length (l.map fun x => .string x)) (hl : l.length < 140737488355328) (hs : ∀ x ∈ l, x.size < 140737488355328) (hM : ∀ b, M b → b < B) : Sl M w v l := by
  have hR : ∀ l : List ByteArray, (∀ x ∈ l, x.size < 140737488355328) → Rs (fun _ => True) w (l.map fun x => .string x) l := by
    intro l
    induction l with
    | nil => intro _; trivial
    | cons x l ih => intro hs; exact ⟨⟨rfl, hs x List.mem_cons_self⟩, ih fun y hy => hs y (List.mem_cons_of_mem _ hy)⟩
  have hf : flat (l.map fun x => Value.string x) = l.map fun x => .string x := by
    clear h hl hs hR
    unfold flat
    induction l with
    | nil => rfl
    | cons x l ih => rw [List.map_cons, List.flatMap_cons, ih]; rfl
  have h2 : OwnSl e B (fun _ => True) w v l := ⟨⟨_, by rw [hf]; exact h, hR l hs⟩, fun _ _ => trivial⟩
  exact h2.sl hl hM (fun _ _ => trivial)
theorem rep_names (t : Tm) {M : Nat → Prop} {w : World} {v : Value} (h : Rep.R M w v t) : ∀ x ∈ nodesL t, x.name.size < 140737488355328 := by
  have h' : TmR M w t v := h
  clear h
  induction h' with
  | mk b off u hop hs hg hn hann hl hc ha hu hA ih =>
    intro x hx
    rw [nodesL_eq] at hx
    rcases List.mem_cons.1 hx with rfl | hx
    · exact hs
    · obtain ⟨k, hk, hx⟩ := List.mem_flatMap.1 hx
      obtain ⟨i, hi⟩ := List.mem_iff_getElem?.1 hk
      exact ih i k hi x hx
/-- What down makes of the names that are free. -/
def NK (n : Nat) (l : List (ByteArray × Bool)) : Prop := l.length ≤ n ∧ ∀ p ∈ l, p.1.size < 140737488355328
theorem NK.put {n : Nat} {l : List (ByteArray × Bool)} (h : NK n l) {s : ByteArray} (hs : s.size < 140737488355328) : NK (n + 1) (putK l s true) := by
  unfold putK
  split
  · refine ⟨by rw [List.length_set]; have := h.1; omega, fun p hp => ?_⟩
    rcases List.mem_or_eq_of_mem_set hp with hp | rfl
    · exact h.2 p hp
    · exact hs
  · refine ⟨by rw [List.length_append]; have := h.1; simp; omega, fun p hp => ?_⟩
    rcases List.mem_append.1 hp with hp | hp
    · exact h.2 p hp
    · simp at hp; subst hp; exact hs
theorem NK.mono {n m : Nat} {l : List (ByteArray × Bool)} (h : NK n l) (hn : n ≤ m) : NK m l := ⟨Nat.le_trans h.1 hn, h.2⟩
theorem NK.down (t : Tm) : (∀ x ∈ nodesL t, x.name.size < 140737488355328) → ∀ (n : Nat) (x : BF), NK n x.2 → NK (n + nsz t) (downF t x).2 := by
  refine Tm.ind (p := fun t => (∀ x ∈ nodesL t, x.name.size < 140737488355328) → ∀ (n : Nat) (x : BF), NK n x.2 → NK (n + nsz t) (downF t x).2) (fun t ih => ?_) t
  intro hs n x hx
  have hself : t.name.size < 140737488355328 := hs t (by rw [nodesL_eq]; exact List.mem_cons_self)
  have hkid : ∀ k ∈ t.kids, ∀ (n : Nat) (x : BF), NK n x.2 → NK (n + nsz k) (downF k x).2 := fun k hk => ih k hk fun y hy => hs y (by rw [nodesL_eq]; exact List.mem_cons_of_mem _ (List.mem_flatMap.2 ⟨k, hk, hy⟩))
  have hfold : ∀ (l : List Tm), (∀ k ∈ l, k ∈ t.kids) → ∀ (n : Nat) (x : BF), NK n x.2 → NK (n + nszs l) ((l.map downF).foldl (fun x g => g x) x).2 := by
    intro l
    induction l with
    | nil => intro _ n x h; exact h
    | cons k l ihl =>
      intro hk n x h
      rw [List.map_cons, List.foldl_cons, nszs_cons, ← Nat.add_assoc]
      exact ihl (fun y hy => hk y (List.mem_cons_of_mem _ hy)) _ _ (hkid k (hk k List.mem_cons_self) n x h)
  have hnz := nsz_eq t
  have hwith : ∀ (g : BF → BF) (ss : List ByteArray) (x : BF) (n m : Nat), (∀ x : BF, NK n x.2 → NK m (g x).2) → NK n x.2 → NK m (withF g ss x).2 := fun g ss x n m hg h => hg _ h
  have hhead : ∀ (n : Nat) (x : BF), NK n x.2 → NK (n + nszs t.kids) ((t.kids.map downF).headD id x).2 := by
    intro n x h
    cases hk : t.kids with
    | nil => exact h
    | cons k l => rw [nszs_cons]; exact (hkid k (by rw [hk]; exact List.mem_cons_self) n x h).mono (by omega)
  rw [downF_eq]
  unfold downK
  split
  · split
    · exact (hx.put hself).mono (by omega)
    · exact hx.mono (by omega)
  · split
    · exact (hwith _ _ _ n (n + nszs t.kids) (hhead n) hx).mono (by omega)
    · split
      · exact (hwith _ _ _ n (n + nszs t.kids) (hhead n) hx).mono (by omega)
      · split
        · cases hk : t.kids with
          | nil => exact hx.mono (by omega)
          | cons k l =>
            cases hl : l with
            | nil => 
              rw [hk, hl, nszs_cons, nszs_nil] at hnz
              exact (hkid k (by rw [hk]; exact List.mem_cons_self) n x hx).mono (by omega)
            | cons k2 l2 =>
              rw [hk, hl, nszs_cons, nszs_cons] at hnz
              have h1 := hkid k (by rw [hk]; exact List.mem_cons_self) n x hx
              exact (hwith (downF k2) [t.name] (downF k x) _ _ (fun x => hkid k2 (by rw [hk, hl]; simp) _ x) h1).mono (by omega)
        · exact (hfold t.kids (fun k h => h) n x hx).mono (by omega)
/-- The names that are free, sorted. -/
def freeS (t : Tm) : List ByteArray := sortB ((downF t ([], [])).2.map (·.1))
end Rw
namespace Go.Proofs
open Go.RowKit Go.Maps Go.Sort Go.Shelf
set_option maxRecDepth 100000
def Tryz.keys36_ren : Go.Shelf.Ren := ⟨fun | 7 => 36 | 10 => 62 | n => n, fun | 23 => 50 | 26 => 9 | 3 => 4 | 28 => 56 | 0 => 0 | 27 => 55 | 33 => 65 | 4 => 4 | n => n, fun | n => n⟩
theorem Tryz.keys36 : Go.Proofs.SlLaysZ.n7 Tryz.prog Tryz.keys36_ren := {
  mixed := by kernel_rfl
  f7 := ⟨Tryz.f36.name, by decide, Tryz.func36.trans (congrArg some (by kernel_rfl))⟩
  f10 := ⟨Tryz.f62.name, by decide, Tryz.func62.trans (congrArg some (by kernel_rfl))⟩
  t0 := Tryz.underlying0
  a0 := Tryz.isAgg0
  z0 := Tryz.sizeOf0
  v0 := Tryz.zeroValue0
  t4 := Tryz.underlying4
  a4 := Tryz.isAgg4
  z4 := Tryz.sizeOf4
  v4 := Tryz.zeroValue4
  t23 := Tryz.underlying50
  a23 := Tryz.isAgg50
  z23 := Tryz.sizeOf50
  v23 := Tryz.zeroValue50
  t26 := Tryz.underlying9
  a26 := Tryz.isAgg9
  z26 := Tryz.sizeOf9
  v26 := Tryz.zeroValue9
  t27 := Tryz.underlying55
  a27 := Tryz.isAgg55
  z27 := Tryz.sizeOf55
  v27 := Tryz.zeroValue55
  t28 := Tryz.underlying56
  a28 := Tryz.isAgg56
  z28 := Tryz.sizeOf56
  v28 := Tryz.zeroValue56
  t33 := Tryz.underlying65
  a33 := Tryz.isAgg65
  z33 := Tryz.sizeOf65
  v33 := Tryz.zeroValue65 }
def Tryz.sorted35_ren : Go.Shelf.Ren := ⟨fun | 6 => 35 | 8 => 60 | 9 => 61 | 11 => 80 | 13 => 82 | 12 => 81 | 23 => 106 | 24 => 107 | 14 => 97 | 15 => 98 | 16 => 99 | 17 => 100 | 18 => 101 | 19 => 102 | 20 => 103 | 21 => 104 | 22 => 105 | 25 => 117 | 26 => 118 | 27 => 119 | 28 => 120 | 29 => 121 | 30 => 122 | 31 => 126 | n => n, fun | 26 => 9 | 28 => 56 | 24 => 39 | 0 => 0 | 3 => 3 | 37 => 90 | 48 => 112 | 50 => 114 | 4 => 4 | 40 => 104 | 39 => 103 | 45 => 109 | 5 => 5 | 9 => 9 | 51 => 123 | 55 => 46 | 57 => 131 | 58 => 132 | 33 => 65 | n => n, fun | n => n⟩
theorem Tryz.sorted35 : Go.Proofs.SlLaysZ.n6 Tryz.prog Tryz.sorted35_ren := {
  mixed := by kernel_rfl
  f6 := ⟨Tryz.f35.name, by decide, Tryz.func35.trans (congrArg some (by kernel_rfl))⟩
  f8 := ⟨Tryz.f60.name, by decide, Tryz.func60.trans (congrArg some (by kernel_rfl))⟩
  f11 := ⟨Tryz.f80.name, by decide, Tryz.func80.trans (congrArg some (by kernel_rfl))⟩
  t0 := Tryz.underlying0
  a0 := Tryz.isAgg0
  z0 := Tryz.sizeOf0
  v0 := Tryz.zeroValue0
  t24 := Tryz.underlying39
  a24 := Tryz.isAgg39
  z24 := Tryz.sizeOf39
  v24 := Tryz.zeroValue39
  t26 := Tryz.underlying9
  a26 := Tryz.isAgg9
  z26 := Tryz.sizeOf9
  v26 := Tryz.zeroValue9
  t28 := Tryz.underlying56
  a28 := Tryz.isAgg56
  z28 := Tryz.sizeOf56
  v28 := Tryz.zeroValue56
  i26 := by kernel_rfl }
def Tryz.sort61_ren : Go.Shelf.Ren := ⟨fun | 6 => 61 | 8 => 82 | 9 => 81 | 19 => 106 | 20 => 107 | 21 => 97 | 22 => 98 | 23 => 99 | 24 => 100 | 25 => 101 | 26 => 102 | 27 => 103 | 28 => 104 | 29 => 105 | 36 => 117 | 31 => 118 | 32 => 119 | 37 => 120 | 38 => 121 | 39 => 122 | 41 => 126 | n => n, fun | 27 => 39 | 29 => 9 | 3 => 3 | 32 => 90 | 26 => 39 | 0 => 0 | 44 => 112 | 46 => 114 | 4 => 4 | 36 => 104 | 35 => 103 | 41 => 109 | 5 => 5 | 9 => 9 | 53 => 123 | 57 => 46 | 63 => 131 | 64 => 132 | n => n, fun | n => n⟩
theorem Tryz.sort61 : Go.Proofs.SlLaysM.n6 Tryz.prog Tryz.sort61_ren := {
  mixed := by kernel_rfl
  f6 := ⟨Tryz.f61.name, by decide, Tryz.func61.trans (congrArg some (by kernel_rfl))⟩
  f8 := Tryz.func82.trans (congrArg some (by kernel_rfl))
  f9 := ⟨Tryz.f81.name, by decide, Tryz.func81.trans (congrArg some (by kernel_rfl))⟩
  f19 := Tryz.func106.trans (congrArg some (by kernel_rfl))
  f20 := Tryz.func107.trans (congrArg some (by kernel_rfl))
  f21 := ⟨Tryz.f97.name, by decide, Tryz.func97.trans (congrArg some (by kernel_rfl))⟩
  f22 := ⟨Tryz.f98.name, by decide, Tryz.func98.trans (congrArg some (by kernel_rfl))⟩
  f23 := ⟨Tryz.f99.name, by decide, Tryz.func99.trans (congrArg some (by kernel_rfl))⟩
  f24 := ⟨Tryz.f100.name, by decide, Tryz.func100.trans (congrArg some (by kernel_rfl))⟩
  f25 := ⟨Tryz.f101.name, by decide, Tryz.func101.trans (congrArg some (by kernel_rfl))⟩
  f26 := ⟨Tryz.f102.name, by decide, Tryz.func102.trans (congrArg some (by kernel_rfl))⟩
  f27 := ⟨Tryz.f103.name, by decide, Tryz.func103.trans (congrArg some (by kernel_rfl))⟩
  f28 := ⟨Tryz.f104.name, by decide, Tryz.func104.trans (congrArg some (by kernel_rfl))⟩
  f29 := ⟨Tryz.f105.name, by decide, Tryz.func105.trans (congrArg some (by kernel_rfl))⟩
  f31 := Tryz.func118.trans (congrArg some (by kernel_rfl))
  f32 := Tryz.func119.trans (congrArg some (by kernel_rfl))
  f36 := ⟨Tryz.f117.name, by decide, Tryz.func117.trans (congrArg some (by kernel_rfl))⟩
  f37 := ⟨Tryz.f120.name, by decide, Tryz.func120.trans (congrArg some (by kernel_rfl))⟩
  f38 := ⟨Tryz.f121.name, by decide, Tryz.func121.trans (congrArg some (by kernel_rfl))⟩
  f39 := ⟨Tryz.f122.name, by decide, Tryz.func122.trans (congrArg some (by kernel_rfl))⟩
  f41 := ⟨Tryz.f126.name, by decide, Tryz.func126.trans (congrArg some (by kernel_rfl))⟩
  t0 := Tryz.underlying0
  a0 := Tryz.isAgg0
  z0 := Tryz.sizeOf0
  v0 := Tryz.zeroValue0
  t3 := Tryz.underlying3
  a3 := Tryz.isAgg3
  z3 := Tryz.sizeOf3
  v3 := Tryz.zeroValue3
  t4 := Tryz.underlying4
  a4 := Tryz.isAgg4
  z4 := Tryz.sizeOf4
  v4 := Tryz.zeroValue4
  t5 := Tryz.underlying5
  a5 := Tryz.isAgg5
  z5 := Tryz.sizeOf5
  v5 := Tryz.zeroValue5
  t9 := Tryz.underlying9
  a9 := Tryz.isAgg9
  z9 := Tryz.sizeOf9
  v9 := Tryz.zeroValue9
  t26 := Tryz.underlying39
  a26 := Tryz.isAgg39
  z26 := Tryz.sizeOf39
  v26 := Tryz.zeroValue39
  t27 := Tryz.underlying39
  a27 := Tryz.isAgg39
  z27 := Tryz.sizeOf39
  v27 := Tryz.zeroValue39
  t29 := Tryz.underlying9
  a29 := Tryz.isAgg9
  z29 := Tryz.sizeOf9
  v29 := Tryz.zeroValue9
  t32 := Tryz.underlying90
  a32 := Tryz.isAgg90
  z32 := Tryz.sizeOf90
  v32 := Tryz.zeroValue90
  t35 := Tryz.underlying103
  a35 := Tryz.isAgg103
  z35 := Tryz.sizeOf103
  v35 := Tryz.zeroValue103
  t36 := Tryz.underlying104
  a36 := Tryz.isAgg104
  z36 := Tryz.sizeOf104
  v36 := Tryz.zeroValue104
  t41 := Tryz.underlying109
  a41 := Tryz.isAgg109
  z41 := Tryz.sizeOf109
  v41 := Tryz.zeroValue109
  t44 := Tryz.underlying112
  a44 := Tryz.isAgg112
  z44 := Tryz.sizeOf112
  v44 := Tryz.zeroValue112
  t46 := Tryz.underlying114
  a46 := Tryz.isAgg114
  z46 := Tryz.sizeOf114
  v46 := Tryz.zeroValue114
  t53 := Tryz.underlying123
  a53 := Tryz.isAgg123
  z53 := Tryz.sizeOf123
  v53 := Tryz.zeroValue123
  t57 := Tryz.underlying46
  a57 := Tryz.isAgg46
  z57 := Tryz.sizeOf46
  v57 := Tryz.zeroValue46
  t63 := Tryz.underlying131
  a63 := Tryz.isAgg131
  z63 := Tryz.sizeOf131
  v63 := Tryz.zeroValue131
  t64 := Tryz.underlying132
  a64 := Tryz.isAgg132
  z64 := Tryz.sizeOf132
  v64 := Tryz.zeroValue132 }
theorem Tryz.sorts35 (m : Nat) : AnyZ.SortsIn Tryz.prog Tryz.sorted35_ren Fence.wide m :=
  ⟨fun blk off cap ss W hH hblk hsz => callsIn_wide.2 (AnyM.slices_Sort_string Tryz.sort61 blk off cap ss W hH hblk hsz),
   fun p cap W => callsIn_wide.2 (AnyM.slices_Sort_string_none Tryz.sort61 p cap W)⟩
theorem Tryz.maps_Keys_36 (mb : Option Nat) (W : World) : CallsIn Fence.wide 5 Tryz.prog 36 #[.map mb] W fun e w' => e = .returned (.func (.func 62) #[] #[.pointer (some ⟨W.heap.size, 0, none⟩)]) ∧ w' = W.alloc (.cells #[.map mb] 50) :=
  AnyZ.keys_in Tryz.keys36 Fence.wide 5 trivial rfl mb W
theorem Tryz.slices_Sorted_keys_35_36 {H : Type} (b nn : Nat) (D0 : DataW H) (R : Value → Option (DataW H × List MemPlace)) (w : World) (hown : w.ownsMap Tryz.prog 9 R b nn D0) (hmax : Maps.size D0 ≤ maxLen) (hbytes : Maps.size D0 * 16 ≤ 140737488355328) :
    CallsIn Fence.wide 5 Tryz.prog 35 #[.func (.func 62) #[] #[.pointer (some ⟨w.heap.size, 0, none⟩)]] (w.alloc (.cells #[.map (some b)] 50)) fun e w' => ∃ (v : Value) (ss : List (List UInt8)), e = .returned v ∧ ss.Perm (strKeys D0) ∧
      w'.ownsRow (w.alloc (.cells #[.map (some b)] 50)).heap.size 9 1 v ss.length ((ss.mergeSort (fun x y => decide (x ≤ y))).map encStr) ∧ (v = .slice none 0 0 ↔ ss = []) ∧ Below (w.alloc (.cells #[.map (some b)] 50)).heap.size (w.alloc (.cells #[.map (some b)] 50)) w' := by
  have hbl := hown.lt
  have hseq : SeqGives Fence.wide 2 Tryz.prog 62 #[.pointer (some ⟨w.heap.size, 0, none⟩)] encStr (fun ss => ss.Perm (strKeys D0)) (Maps.size D0) (w.alloc (.cells #[.map (some b)] 50)) :=
    AnyZ.keys_gives (ρ := Tryz.keys36_ren) { Tryz.keys36 with } Fence.wide _ trivial rfl (by omega) w.heap.size b nn D0 _ (by simp) (by simp) (by
      obtain ⟨es, clock, hb, Ft, hs, hD⟩ := hown
      exact ⟨es, clock, (Below.heap_alloc _ _ b hbl).trans hb, Ft, hs, hD⟩)
  exact AnyZ.sorted_in Tryz.sorted35 Fence.wide 5 trivial trivial trivial trivial rfl (by omega) (Tryz.sorts35 _) (enters_of Tryz.func61 (by kernel_rfl) rfl) 62 #[.pointer (some ⟨w.heap.size, 0, none⟩)] trivial (enters_of Tryz.func62 (by kernel_rfl) rfl) _ _ hmax hbytes _ hseq
end Go.Proofs
namespace Go.Proofs.YtohfnpmehgpphaaGreat
open Go Rw Go.RowKit
set_option maxRecDepth 100000
end Go.Proofs.YtohfnpmehgpphaaGreat
namespace Go.Proofs.YtohfnpmehgpphaaGreat
open Go Rw Go.RowKit
set_option maxRecDepth 100000
theorem at_spec (M : Nat → Prop) (w : World) (v : Value) (l : List Int) (n : Int) (hl : Sl M w v l) :
  Calls Tryz.prog 92 #[v, .int .i64 n] w (Ret fun r w' => r = .int .i64 (atOf l n) ∧ w = w') := by
 have hlt := hl.lt
 refine c_enter (n := 19) Tryz.func92 rfl rfl rfl ?_
 refine q0 (l_p 1 tK rfl (q1 (c_seq (q0 (l_p 1 tK rfl (q1 (c_blk ?_)))))))
 refine c_loop (X := Nat) (fun x => [(0, v), (1, .int .i64 n), (5, .int .i64 (x : Nat))]) (fun x w' => w = w' ∧ x ≤ l.length ∧ ∀ j, j < x → l[j]? ≠ some n) (fun x => l.length - x) (0) (s3 rfl rfl rfl) ?_ ?_
 ·exact ⟨rfl, Nat.zero_le _, fun j hj => absurd hj (Nat.not_lt_zero _)⟩
 rintro k _ ⟨rfl, hk, hno⟩
 refine c_seq (q0 (l_p 2 tK rfl ?_))
 refine lC (o_len tK hl rfl rfl rfl rfl rfl ?_)
 refine l_p 1 tK rfl (q1 ?_)
 refine c_ifP _ rfl (fun h => ?_) (fun h => ?_)
 ·have hkl : k < l.length := by omega
  refine c_skip (x_seq (c_seq (c_blk (q0 (l_p 2 tK rfl ?_)))))
  refine lC (o_ixS tK hl (List.getElem?_eq_getElem hkl) rfl rfl rfl rfl rfl rfl rfl rfl rfl ?_)
  intro b o u hr hat
  obtain ⟨rfl, hb⟩ := hr
  refine lC (o_ld tK (hat.cell 0 _ rfl) rfl rfl rfl rfl rfl ?_)
  refine l_p 2 tK rfl (q1 ?_)
  refine c_ifP _ rfl (fun h2 => ?_) (fun h2 => ?_)
  ·refine q0 (l_p 2 tK rfl (q1 (c_ret (x_blkR (x_seqR (x_seqR (x_blkR (x_seqR (x_ret1 rfl rfl ?_)))))))))
   exact ⟨by rw [atOf_found hkl h2 hno], rfl⟩
  refine c_skip (x_blk (x_seq (c_reg (l_p 1 tK rfl ?_))))
  refine lC (o_ai rfl rfl rfl (by omega) rfl rfl ?_)
  refine l_p 1 tK rfl (l_nil ?_)
  exact x_round (k + 1) (s3 rfl rfl rfl) ⟨rfl, by omega, step_no hno hkl h2⟩ (by omega)
 refine c_exit (x_seqE (x_seqE (x_blkE (x_seq (q0 (l_p 1 tK rfl (q1 (c_ret (x_ret1 rfl rfl ?_)))))))))
 exact ⟨by rw [atOf_none (by omega) hno], rfl⟩
theorem in_spec (M : Nat → Prop) (w : World) (v : Value) (l : List Int) (n : Int) (hl : Sl M w v l) :
  Calls Tryz.prog 75 #[v, .int .i64 n] w (Ret fun r w' => r = .bool (decide (n ∈ l)) ∧ w = w') := by
 refine c_enter (n := 9) Tryz.func75 rfl rfl rfl ?_
 refine q0 (l_p 1 tK rfl (q1 (q0 (l_p 2 tK rfl ?_))))
 refine lC (o_call fo92 rfl rfl rfl (at_spec M _ _ l n hl) ?_)
 rintro _ _ ⟨rfl, rfl⟩
 refine l_p 2 tK rfl (q1 (c_ret (x_ret1 rfl rfl ?_)))
 exact ⟨by rw [inOf_at], rfl⟩
theorem refVars_spec (t : Ty) (c : UInt8) (M : Nat → Prop) (w : World) (v : Value) (hsh : shapeF t c = true) (ht : Rep.R M w v t) (hlow0 : Low M w) (hz : psz t ≤ 2000000) :
  Calls Tryz.prog 53 #[v] w (Ret fun r w' => Sl M w' r (varsF t) ∧ Ext w w') := by
 have hlow := hlow0
 have hB : w.heap.size ≤ w.heap.size := Nat.le_refl _
 have hE : Below w.heap.size w w := Below.refl _ _
 have hsub : ∀ b, M b → M b := fun _ h => h
 obtain ⟨kv, rfl, op, nm, n64, hk⟩ := ty_open ht
 have hpc := psz_canon _ t (Nat.le_refl _)
 have hpl : (partsL (canonF t)).length = psz (canonF t) := rfl
 refine c_enter (n := 48) Tryz.func53 rfl rfl rfl ?_
 refine q0 ?_
 refine lC (o_box rfl rfl rfl ?_)
 intro b1 w1 hb_b1 ew1 h1
 replace h1 : Box _ b1 25 [.int .u8 t.op, .string t.name, .int .i64 t.n, kv] := h1
 replace h1 := h1.at (nM_of hlow hb_b1)
 replace hE := ew1.bl hE hB
 replace ht := Rep.ext ht ew1
 replace hk := hk.ext ew1
 replace hlow := hlow.ext ew1
 replace hB := ew1.z hB
 refine l_p 1 tK rfl (q1 (q0 (l_p 1 tK rfl (q1 (q0 ?_)))))
 refine lC (o_lds tK (fun j v hv => h1.cell j v hv) rfl rfl rfl rfl rfl rfl ?_)
 refine lC (o_call fo32 rfl rfl rfl (refCanon_all _ t c _ _ _ (Nat.le_refl _) hsh ht hlow hz) ?_)
 rintro vc w2 ⟨hc, ew2⟩
 replace hE := ew2.bl hE hB
 replace ht := Rep.ext ht ew2
 replace hk := hk.ext ew2
 replace h1 := h1.ext ew2
 replace hlow := hlow.ext ew2
 replace hB := ew2.z hB
 refine lC (o_call fo25 rfl rfl rfl (parts_spec (canonF t) _ _ _ hc hlow (by omega)) ?_)
 rintro vhp w3 ⟨hp, ew3⟩
 replace hE := ew3.bl hE hB
 replace ht := Rep.ext ht ew3
 replace hk := hk.ext ew3
 replace h1 := h1.ext ew3
 replace hc := Rep.ext hc ew3
 replace hlow := hlow.ext ew3
 replace hB := ew3.z hB
 refine l_p 1 tK rfl (q1 (c_seq (q0 (l_p 1 tK rfl (q1 (c_blk ?_))))))
 refine c_loop3 (X := Nat) (Y := Value) (Z := Nat → Prop) (fun i v M1 => [(3, v), (4, vhp), (5, .int .i64 (i : Nat))]) (fun i v M1 w' => i ≤ (partsL (canonF t)).length ∧ OwnSl 3 w.heap.size M1 w' v (varsTo [] ((partsL (canonF t)).take i)) ∧ Sl M1 w' vhp (partsL (canonF t)) ∧ Low M1 w' ∧ (∀ b, M b → M1 b) ∧ Below w.heap.size w w' ∧ w.heap.size ≤ w'.heap.size) (fun i v M1 => (partsL (canonF t)).length - i) (0) (.slice none 0 0) (M) (s3 rfl rfl rfl) ?_ ?_
 ·exact ⟨Nat.zero_le _, own_nil, hp, hlow, hsub, hE, hB⟩
 rintro i v M1 w4 ⟨hi, ho, hp, hlow, hsub, hE, hB⟩
 have hvl := varsTo_len [] ((partsL (canonF t)).take i)
 rw [List.length_nil, List.length_take] at hvl
 refine c_seq (q0 (l_p 2 tK rfl ?_))
 refine lC (o_len tK hp rfl rfl rfl rfl rfl ?_)
 refine l_p 1 tK rfl (q1 ?_)
 refine c_ifP _ rfl (fun c1 => ?_) (fun c1 => ?_)
 ·refine c_skip (x_seq (c_seq (c_blk (q0 (l_p 2 tK rfl ?_)))))
  have hik : i < (partsL (canonF t)).length := by omega
  refine lC (o_ixS tK hp (List.getElem?_eq_getElem hik) rfl rfl rfl rfl rfl rfl rfl rfl rfl ?_)
  intro ebx0 eox0 eux0 hyx0 hatx0
  obtain ⟨kvx0, rfl, opx0, nmx0, n64x0, hkx0⟩ := ty_open hyx0
  replace hatx0 : At M1 w4 ebx0 eox0 [.int .u8 (partsL (canonF t))[i].op, .string (partsL (canonF t))[i].name, .int .i64 (partsL (canonF t))[i].n, kvx0] := hatx0
  refine l_p 1 tK rfl ?_
  refine lC (o_ld tK (hatx0.cell 0 _ rfl) rfl rfl rfl rfl rfl ?_)
  refine l_p 2 tK rfl ?_
  refine l_splitP 21 _ rfl (fun c2 => ?_) (fun c2 => ?_)
  ·refine l_p 11 tK rfl ?_
   refine lC (o_ixS tK hp (List.getElem?_eq_getElem hik) rfl rfl rfl rfl rfl rfl rfl rfl rfl ?_)
   intro ebx1 eox1 eux1 hyx1 hatx1
   obtain ⟨kvx1, rfl, opx1, nmx1, n64x1, hkx1⟩ := ty_open hyx1
   replace hatx1 : At M1 w4 ebx1 eox1 [.int .u8 (partsL (canonF t))[i].op, .string (partsL (canonF t))[i].name, .int .i64 (partsL (canonF t))[i].n, kvx1] := hatx1
   refine l_p 1 tK rfl ?_
   refine lC (o_ld tK (hatx1.cell 2 _ rfl) rfl rfl rfl rfl rfl ?_)
   have hos : Sl NoM w4 v (varsTo [] ((partsL (canonF t)).take i)) := ho.sl (by omega) (fun _ h => h.elim) (fun _ h => h.elim)
   refine lC (o_call fo75 rfl rfl rfl (in_spec NoM _ _ _ _ hos) ?_)
   rintro _ _ ⟨rfl, rfl⟩
   refine l_p 2 tK rfl (q1 ?_)
   refine c_ifN _ rfl (fun c3 => ?_) (fun c3 => ?_)
   ·refine c_reg (l_p 3 tK rfl ?_)
    refine lC (o_ixS tK hp (List.getElem?_eq_getElem hik) rfl rfl rfl rfl rfl rfl rfl rfl rfl ?_)
    intro ebx2 eox2 eux2 hyx2 hatx2
    obtain ⟨kvx2, rfl, opx2, nmx2, n64x2, hkx2⟩ := ty_open hyx2
    replace hatx2 : At M1 w4 ebx2 eox2 [.int .u8 (partsL (canonF t))[i].op, .string (partsL (canonF t))[i].name, .int .i64 (partsL (canonF t))[i].n, kvx2] := hatx2
    refine l_p 1 tK rfl ?_
    refine lC (o_ld tK (hatx2.cell 2 _ rfl) rfl rfl rfl rfl rfl ?_)
    refine lC (o_bs tK rfl rfl rfl rfl rfl rfl rfl (sz1 rfl) rfl rfl rfl ?_)
    intro bw5 w5 qbw5 ew5 hbw5
    have nbw5 := nM_of hlow qbw5
    replace ho := ho.ext hlow hB ew5
    replace hE := ew5.bl hE hB
    replace hp := hp.ext ew5
    replace hyx0 := Rep.ext hyx0 ew5
    replace hkx0 := hkx0.ext ew5
    replace hatx0 := hatx0.ext ew5
    replace hyx1 := Rep.ext hyx1 ew5
    replace hkx1 := hkx1.ext ew5
    replace hatx1 := hatx1.ext ew5
    replace hyx2 := Rep.ext hyx2 ew5
    replace hkx2 := hkx2.ext ew5
    replace hatx2 := hatx2.ext ew5
    replace hlow := hlow.ext ew5
    replace hB := ew5.z hB
    refine lC (o_app1 tK ho hbw5 nbw5 ⟨rfl, n64x2⟩ hlow hB rfl rfl rfl rfl rfl rfl rfl (by omega) (by show (_ + _) * 8 ≤ _; omega) rfl rfl ?_)
    intro vw6 w6 Mw6 hw6 sw6 frw6 blw6
    replace hE := hE.trans sw6.below
    replace hp := hp.stp sw6
    replace hyx0 := Rep.stp hyx0 sw6
    replace hkx0 := hkx0.stp sw6
    replace hatx0 := hatx0.stp sw6
    replace hyx1 := Rep.stp hyx1 sw6
    replace hkx1 := hkx1.stp sw6
    replace hatx1 := hatx1.stp sw6
    replace hyx2 := Rep.stp hyx2 sw6
    replace hkx2 := hkx2.stp sw6
    replace hatx2 := hatx2.stp sw6
    replace hsub := sw6.sb hsub
    replace hlow := sw6.low
    replace hB := sw6.z hB
    replace ho := hw6
    clear hw6
    refine l_p 1 tK rfl (q2 (x_seq (c_reg (l_p 1 tK rfl ?_))))
    refine lC (o_ai rfl rfl rfl (by omega) rfl rfl ?_)
    refine l_p 1 tK rfl (l_nil ?_)
    have htk : (partsL (canonF t)).take (i + 1) = (partsL (canonF t)).take i ++ [(partsL (canonF t))[i]] := List.take_succ_eq_append_getElem hik
    have hnb : numB (partsL (canonF t))[i].op = true := by unfold numB; simp [*]
    have hni : (partsL (canonF t))[i].n ∉ varsTo [] ((partsL (canonF t)).take i) := by assumption
    exact x_round3 (i + 1) (vw6) (Mw6) (s3 rfl rfl (get_num rfl (by omega))) ⟨by omega, by rw [htk, varsTo_yes hnb hni]; exact ho, hp, hlow, hsub, hE, hB⟩ (by omega)
   refine c_skip (x_blk (x_seq (c_reg (l_p 1 tK rfl ?_))))
   refine lC (o_ai rfl rfl rfl (by omega) rfl rfl ?_)
   refine l_p 1 tK rfl (l_nil ?_)
   have htk : (partsL (canonF t)).take (i + 1) = (partsL (canonF t)).take i ++ [(partsL (canonF t))[i]] := List.take_succ_eq_append_getElem hik
   have hst : varsTo [] ((partsL (canonF t)).take (i + 1)) = varsTo [] ((partsL (canonF t)).take i) := by
    rw [htk]
    cases hnb : numB (partsL (canonF t))[i].op with
    | false => exact varsTo_no hnb
    | true =>
     refine varsTo_old ?_
     unfold numB at hnb
     simp_all
   exact x_round3 (i + 1) (v) (M1) (s3 rfl rfl (get_num rfl (by omega))) ⟨by omega, by rw [hst]; exact ho, hp, hlow, hsub, hE, hB⟩ (by omega)
  refine l_p 2 tK rfl ?_
  refine lC (o_ixS tK hp (List.getElem?_eq_getElem hik) rfl rfl rfl rfl rfl rfl rfl rfl rfl ?_)
  intro ebx1 eox1 eux1 hyx1 hatx1
  obtain ⟨kvx1, rfl, opx1, nmx1, n64x1, hkx1⟩ := ty_open hyx1
  replace hatx1 : At M1 w4 ebx1 eox1 [.int .u8 (partsL (canonF t))[i].op, .string (partsL (canonF t))[i].name, .int .i64 (partsL (canonF t))[i].n, kvx1] := hatx1
  refine l_p 1 tK rfl ?_
  refine lC (o_ld tK (hatx1.cell 0 _ rfl) rfl rfl rfl rfl rfl ?_)
  refine l_p 3 tK rfl ?_
  refine l_splitP 29 _ rfl (fun c4 => ?_) (fun c4 => ?_)
  ·refine l_p 3 tK rfl ?_
   refine lC (o_ixS tK hp (List.getElem?_eq_getElem hik) rfl rfl rfl rfl rfl rfl rfl rfl rfl ?_)
   intro ebx2 eox2 eux2 hyx2 hatx2
   obtain ⟨kvx2, rfl, opx2, nmx2, n64x2, hkx2⟩ := ty_open hyx2
   replace hatx2 : At M1 w4 ebx2 eox2 [.int .u8 (partsL (canonF t))[i].op, .string (partsL (canonF t))[i].name, .int .i64 (partsL (canonF t))[i].n, kvx2] := hatx2
   refine l_p 1 tK rfl ?_
   refine lC (o_ld tK (hatx2.cell 2 _ rfl) rfl rfl rfl rfl rfl ?_)
   have hos : Sl NoM w4 v (varsTo [] ((partsL (canonF t)).take i)) := ho.sl (by omega) (fun _ h => h.elim) (fun _ h => h.elim)
   refine lC (o_call fo75 rfl rfl rfl (in_spec NoM _ _ _ _ hos) ?_)
   rintro _ _ ⟨rfl, rfl⟩
   refine l_p 2 tK rfl (q1 ?_)
   refine c_ifN _ rfl (fun c5 => ?_) (fun c5 => ?_)
   ·refine c_reg (l_p 3 tK rfl ?_)
    refine lC (o_ixS tK hp (List.getElem?_eq_getElem hik) rfl rfl rfl rfl rfl rfl rfl rfl rfl ?_)
    intro ebx3 eox3 eux3 hyx3 hatx3
    obtain ⟨kvx3, rfl, opx3, nmx3, n64x3, hkx3⟩ := ty_open hyx3
    replace hatx3 : At M1 w4 ebx3 eox3 [.int .u8 (partsL (canonF t))[i].op, .string (partsL (canonF t))[i].name, .int .i64 (partsL (canonF t))[i].n, kvx3] := hatx3
    refine l_p 1 tK rfl ?_
    refine lC (o_ld tK (hatx3.cell 2 _ rfl) rfl rfl rfl rfl rfl ?_)
    refine lC (o_bs tK rfl rfl rfl rfl rfl rfl rfl (sz1 rfl) rfl rfl rfl ?_)
    intro bw7 w7 qbw7 ew7 hbw7
    have nbw7 := nM_of hlow qbw7
    replace ho := ho.ext hlow hB ew7
    replace hE := ew7.bl hE hB
    replace hp := hp.ext ew7
    replace hyx0 := Rep.ext hyx0 ew7
    replace hkx0 := hkx0.ext ew7
    replace hatx0 := hatx0.ext ew7
    replace hyx1 := Rep.ext hyx1 ew7
    replace hkx1 := hkx1.ext ew7
    replace hatx1 := hatx1.ext ew7
    replace hyx2 := Rep.ext hyx2 ew7
    replace hkx2 := hkx2.ext ew7
    replace hatx2 := hatx2.ext ew7
    replace hyx3 := Rep.ext hyx3 ew7
    replace hkx3 := hkx3.ext ew7
    replace hatx3 := hatx3.ext ew7
    replace hlow := hlow.ext ew7
    replace hB := ew7.z hB
    refine lC (o_app1 tK ho hbw7 nbw7 ⟨rfl, n64x3⟩ hlow hB rfl rfl rfl rfl rfl rfl rfl (by omega) (by show (_ + _) * 8 ≤ _; omega) rfl rfl ?_)
    intro vw8 w8 Mw8 hw8 sw8 frw8 blw8
    replace hE := hE.trans sw8.below
    replace hp := hp.stp sw8
    replace hyx0 := Rep.stp hyx0 sw8
    replace hkx0 := hkx0.stp sw8
    replace hatx0 := hatx0.stp sw8
    replace hyx1 := Rep.stp hyx1 sw8
    replace hkx1 := hkx1.stp sw8
    replace hatx1 := hatx1.stp sw8
    replace hyx2 := Rep.stp hyx2 sw8
    replace hkx2 := hkx2.stp sw8
    replace hatx2 := hatx2.stp sw8
    replace hyx3 := Rep.stp hyx3 sw8
    replace hkx3 := hkx3.stp sw8
    replace hatx3 := hatx3.stp sw8
    replace hsub := sw8.sb hsub
    replace hlow := sw8.low
    replace hB := sw8.z hB
    replace ho := hw8
    clear hw8
    refine l_p 1 tK rfl (q2 (x_seq (c_reg (l_p 1 tK rfl ?_))))
    refine lC (o_ai rfl rfl rfl (by omega) rfl rfl ?_)
    refine l_p 1 tK rfl (l_nil ?_)
    have htk : (partsL (canonF t)).take (i + 1) = (partsL (canonF t)).take i ++ [(partsL (canonF t))[i]] := List.take_succ_eq_append_getElem hik
    have hnb : numB (partsL (canonF t))[i].op = true := by unfold numB; simp [*]
    have hni : (partsL (canonF t))[i].n ∉ varsTo [] ((partsL (canonF t)).take i) := by assumption
    exact x_round3 (i + 1) (vw8) (Mw8) (s3 rfl rfl (get_num rfl (by omega))) ⟨by omega, by rw [htk, varsTo_yes hnb hni]; exact ho, hp, hlow, hsub, hE, hB⟩ (by omega)
   refine c_skip (x_blk (x_seq (c_reg (l_p 1 tK rfl ?_))))
   refine lC (o_ai rfl rfl rfl (by omega) rfl rfl ?_)
   refine l_p 1 tK rfl (l_nil ?_)
   have htk : (partsL (canonF t)).take (i + 1) = (partsL (canonF t)).take i ++ [(partsL (canonF t))[i]] := List.take_succ_eq_append_getElem hik
   have hst : varsTo [] ((partsL (canonF t)).take (i + 1)) = varsTo [] ((partsL (canonF t)).take i) := by
    rw [htk]
    cases hnb : numB (partsL (canonF t))[i].op with
    | false => exact varsTo_no hnb
    | true =>
     refine varsTo_old ?_
     unfold numB at hnb
     simp_all
   exact x_round3 (i + 1) (v) (M1) (s3 rfl rfl (get_num rfl (by omega))) ⟨by omega, by rw [hst]; exact ho, hp, hlow, hsub, hE, hB⟩ (by omega)
  refine l_p 9 tK rfl (q1 (c_ifF rfl (c_skip (x_blk (x_seq (c_reg (l_p 1 tK rfl ?_)))))))
  refine lC (o_ai rfl rfl rfl (by omega) rfl rfl ?_)
  refine l_p 1 tK rfl (l_nil ?_)
  have htk : (partsL (canonF t)).take (i + 1) = (partsL (canonF t)).take i ++ [(partsL (canonF t))[i]] := List.take_succ_eq_append_getElem hik
  have hst : varsTo [] ((partsL (canonF t)).take (i + 1)) = varsTo [] ((partsL (canonF t)).take i) := by
   rw [htk]
   cases hnb : numB (partsL (canonF t))[i].op with
   | false => exact varsTo_no hnb
   | true =>
    refine varsTo_old ?_
    unfold numB at hnb
    simp_all
  exact x_round3 (i + 1) (v) (M1) (s3 rfl rfl (get_num rfl (by omega))) ⟨by omega, by rw [hst]; exact ho, hp, hlow, hsub, hE, hB⟩ (by omega)
 refine c_exit (x_seqE (x_seqE (x_blkE (x_seq (q0 (l_p 2 tK rfl (q1 (c_ret (x_ret1 rfl rfl ?_)))))))))
 obtain rfl : i = (partsL (canonF t)).length := by omega
 rw [List.take_of_length_le (Nat.le_refl _)] at ho hvl
 exact ⟨ho.sl (by omega) hlow0 hsub, hE⟩
end Go.Proofs.YtohfnpmehgpphaaGreat
namespace Go.Proofs.YtohfnpmehgpphaaGreat
open Go Rw Go.RowKit
set_option maxRecDepth 100000
theorem hasR_spec (s : ByteArray) (hs : s.size < 140737488355328) (c : UInt8) (w : World) :
  Calls Tryz.prog 49 #[.string s, .int .u8 c.toNat] w (Ret fun r w' => r = .bool (hasB s c) ∧ w = w') := by
 refine c_enter (n := 17) Tryz.func49 rfl rfl rfl ?_
 refine q0 (l_p 1 tK rfl (q1 (c_seq (q0 (l_p 1 tK rfl (q1 (c_blk ?_)))))))
 refine c_loop (X := Nat) (fun i => [(0, .string s), (1, .int .u8 c.toNat), (5, .int .i64 (i : Nat))]) (fun i w' => w = w' ∧ i ≤ s.size ∧ ∀ j, j < i → s.data[j]? ≠ some c) (fun i => s.size - i) (0) (s3 rfl rfl rfl) ?_ ?_
 ·exact ⟨rfl, Nat.zero_le _, fun j hj => absurd hj (Nat.not_lt_zero _)⟩
 rintro i _ ⟨rfl, hi, hall⟩
 refine c_seq (q0 (l_p 4 tK rfl (q1 ?_)))
 refine c_ifP _ rfl (fun c1 => ?_) (fun c1 => ?_)
 ·refine c_skip (x_seq (c_seq (c_blk (q0 (l_p 2 tK rfl ?_)))))
  have his : i < s.size := by omega
  have hd : s.data[i]? = some s.data[i] := Array.getElem?_eq_getElem his
  generalize hcc : s.data[i] = ch at hd
  refine lC (o_si tK rfl rfl rfl rfl rfl hd rfl rfl ?_)
  refine l_p 2 tK rfl (q1 ?_)
  refine c_ifP _ rfl (fun c2 => ?_) (fun c2 => ?_)
  ·refine q0 (l_p 1 tK rfl (q1 (c_ret (x_blkR (x_seqR (x_seqR (x_blkR (x_seqR (x_ret1 rfl rfl ?_)))))))))
   exact ⟨by rw [hasB_yes (c := c) (by rw [hd]; congr 1; exact UInt8.toNat_inj.1 (by omega))], rfl⟩
  refine c_skip (x_blk (x_seq (c_reg (l_p 1 tK rfl ?_))))
  refine lC (o_ai rfl rfl rfl (by omega) rfl rfl ?_)
  refine l_p 1 tK rfl (l_nil ?_)
  exact x_round (i + 1) (s3 rfl rfl rfl) ⟨rfl, by omega, fun j hj e => by
   by_cases he : j = i
   ·subst he; rw [hd] at e; cases e; omega
   ·exact hall j (by omega) e⟩ (by omega)
 refine c_exit (x_seqE (x_seqE (x_blkE (x_seq (q0 (l_p 1 tK rfl (q1 (c_ret (x_ret1 rfl rfl ?_)))))))))
 exact ⟨by rw [hasB_no (fun j hj => hall j (by omega))], rfl⟩
theorem partsS_spec (op : Int) (hop : 0 ≤ op ∧ op ≤ 255) (M : Nat → Prop) (w : World) (hlow : Low M w) :
  Calls Tryz.prog 27 #[.int .u8 op] w (Ret fun r w' => r = .string (partsS op) ∧ Ext w w') := by
 have hE : Below w.heap.size w w := Below.refl _ _
 have hB : w.heap.size ≤ w.heap.size := Nat.le_refl _
 have hpl : partsT.length = 20 := rfl
 refine c_enter (n := 20) Tryz.func27 rfl rfl rfl ?_
 refine q0 (l_p 1 tK rfl (q1 (q0 ?_)))
 refine lC (o_bs tK rfl rfl rfl rfl rfl rfl rfl (by intro v hv; simp at hv; rcases hv with rfl | rfl | rfl | rfl | rfl | rfl | rfl | rfl | rfl | rfl | rfl | rfl | rfl | rfl | rfl | rfl | rfl | rfl | rfl | rfl <;> rfl) rfl rfl rfl ?_)
 intro bw1 w1 qbw1 ew1 hbw1
 have nbw1 := nM_of hlow qbw1
 replace hE := ew1.bl hE hB
 replace hlow := hlow.ext ew1
 replace hB := ew1.z hB
 have hl : Sl M w1 (.slice (some ⟨bw1, 0, none⟩) 20 20) partsT := lit_sl hbw1 nbw1 (show Rs _ _ [_, _, _, _, _, _, _, _, _, _, _, _, _, _, _, _, _, _, _, _] partsT from ⟨⟨rfl, by decide⟩, ⟨rfl, by decide⟩, ⟨rfl, by decide⟩, ⟨rfl, by decide⟩, ⟨rfl, by decide⟩, ⟨rfl, by decide⟩, ⟨rfl, by decide⟩, ⟨rfl, by decide⟩, ⟨rfl, by decide⟩, ⟨rfl, by decide⟩, ⟨rfl, by decide⟩, ⟨rfl, by decide⟩, ⟨rfl, by decide⟩, ⟨rfl, by decide⟩, ⟨rfl, by decide⟩, ⟨rfl, by decide⟩, ⟨rfl, by decide⟩, ⟨rfl, by decide⟩, ⟨rfl, by decide⟩, ⟨rfl, by decide⟩, trivial⟩) (by decide)
 refine l_p 1 tK rfl (q1 (c_seq (q0 (l_p 3 tK rfl ?_))))
 refine l_splitP 7 _ rfl (fun c1 => ?_) (fun c1 => ?_)
 ·refine l_p 7 tK rfl (q1 (c_ifT rfl (q0 (l_p 1 tK rfl (q1 (c_ret (x_seqR (x_ret1 rfl rfl ?_))))))))
  exact ⟨by unfold partsS; rw [if_pos (by omega)], hE⟩
 refine l_p 1 tK rfl ?_
 refine lC (o_conv (y := op) tK rfl rfl rfl rfl rfl (IntWalk.i64_in _ (by omega)) rfl rfl ?_)
 refine l_p 1 tK rfl ?_
 refine lC (o_len tK hl rfl rfl rfl rfl rfl ?_)
 refine lC (o_ai rfl rfl rfl (by omega) rfl rfl ?_)
 refine l_p 2 tK rfl (q1 ?_)
 refine c_ifP _ rfl (fun c2 => ?_) (fun c2 => ?_)
 ·refine q0 (l_p 1 tK rfl (q1 (c_ret (x_seqR (x_ret1 rfl rfl ?_)))))
  exact ⟨by unfold partsS; rw [if_pos (by omega)], hE⟩
 refine c_skip (x_seq (q0 (l_p 2 tK rfl ?_)))
 refine lC (o_ar rfl rfl rfl (z := op - 32) (by rw [IntKind.wrap_u8]; omega) rfl rfl ?_)
 have hlen : (op - 32).toNat < partsT.length := by show _ < 20; omega
 refine lC (o_ixS tK hl (List.getElem?_eq_getElem hlen) rfl rfl (by omega) rfl rfl rfl rfl rfl rfl ?_)
 intro b o u hr hat
 obtain ⟨rfl, _⟩ := hr
 refine lC (o_ld tK (hat.cell 0 _ rfl) rfl rfl rfl rfl rfl ?_)
 refine l_p 1 tK rfl (q1 (c_ret (x_ret1 rfl rfl ?_)))
 exact ⟨by unfold partsS; rw [if_neg (by omega), List.getElem?_eq_getElem hlen, Option.getD_some], hE⟩
theorem zero_spec (t : Ty) (M : Nat → Prop) (w : World) (v : Value) (ht : Rep.R M w v t) (hlow : Low M w) :
  Calls Tryz.prog 51 #[v] w (Ret fun r w' => r = .bool (blankB t) ∧ Ext w w') := by
 have hE : Below w.heap.size w w := Below.refl _ _
 have hB : w.heap.size ≤ w.heap.size := Nat.le_refl _
 obtain ⟨kv, rfl, op, nm, n64, hk⟩ := ty_open ht
 refine c_enter (n := 22) Tryz.func51 rfl rfl rfl ?_
 refine q0 ?_
 refine lC (o_box rfl rfl rfl ?_)
 intro b1 w1 hb_b1 ew1 h1
 replace h1 : Box _ b1 25 [.int .u8 t.op, .string t.name, .int .i64 t.n, kv] := h1
 replace h1 := h1.at (nM_of hlow hb_b1)
 replace hE := ew1.bl hE hB
 replace ht := Rep.ext ht ew1
 replace hk := hk.ext ew1
 replace hlow := hlow.ext ew1
 replace hB := ew1.z hB
 refine l_p 1 tK rfl (q1 (q0 (l_p 1 tK rfl ?_)))
 refine lC (o_ld tK (h1.cell 0 _ rfl) rfl rfl rfl rfl rfl ?_)
 refine l_p 2 tK rfl ?_
 refine l_splitP 6 _ rfl (fun c1 => ?_) (fun c1 => ?_)
 ·refine l_p 1 tK rfl ?_
  refine lC (o_ld tK (h1.cell 1 _ rfl) rfl rfl rfl rfl rfl ?_)
  refine l_p 3 tK rfl ?_
  refine l_splitP 11 _ rfl (fun c2 => ?_) (fun c2 => ?_)
  ·refine l_p 1 tK rfl ?_
   refine lC (o_ld tK (h1.cell 2 _ rfl) rfl rfl rfl rfl rfl ?_)
   refine l_p 3 tK rfl ?_
   refine l_splitP 16 _ rfl (fun c3 => ?_) (fun c3 => ?_)
   ·refine l_p 1 tK rfl ?_
    refine lC (o_ld tK (h1.cell 3 _ rfl) rfl rfl rfl rfl rfl ?_)
    refine lC (o_len tK hk rfl rfl rfl rfl rfl ?_)
    refine l_p 3 tK rfl (q1 (c_ret (x_ret1 rfl rfl ?_)))
    exact ⟨by congr 1; unfold blankB; simp_all, hE⟩
   refine l_p 6 tK rfl (q1 (c_ret (x_ret1 rfl rfl ?_)))
   exact ⟨by congr 1; unfold blankB; simp_all, hE⟩
  refine l_p 11 tK rfl (q1 (c_ret (x_ret1 rfl rfl ?_)))
  exact ⟨by congr 1; unfold blankB; simp_all, hE⟩
 refine l_p 16 tK rfl (q1 (c_ret (x_ret1 rfl rfl ?_)))
 exact ⟨by congr 1; unfold blankB; simp_all, hE⟩
theorem partsR_spec (t : Tm) (p : ByteArray) (hp : p.size < 140737488355328) (M : Nat → Prop) (w : World) (v : Value) (ht : Rep.R M w v t) (hlow : Low M w) (hz : psz t.ann ≤ 2000000) :
  Calls Tryz.prog 28 #[v, .string p] w (Ret fun r w' => r = .bool (partsB t p) ∧ Ext w w') := by
 have hE : Below w.heap.size w w := Below.refl _ _
 have hB : w.heap.size ≤ w.heap.size := Nat.le_refl _
 obtain ⟨akv, kv, rfl, op, nm, ag, n64, ha, hk⟩ := tm_open ht
 refine c_enter (n := 135) Tryz.func28 rfl rfl rfl ?_
 refine q0 ?_
 refine lC (o_box rfl rfl rfl ?_)
 intro b2 w1 hb_b2 ew1 h2
 replace h2 : Box _ b2 28 [.int .u8 t.op, .string t.name, .string t.arg, .int .i64 t.n, .bool t.has, .int .u8 t.ann.op, .string t.ann.name, .int .i64 t.ann.n, akv, kv] := h2
 replace h2 := h2.at (nM_of hlow hb_b2)
 replace hE := ew1.bl hE hB
 replace ht := Rep.ext ht ew1
 replace ha := Rep.ext ha ew1
 replace hk := hk.ext ew1
 replace hlow := hlow.ext ew1
 replace hB := ew1.z hB
 refine l_p 1 tK rfl (q1 ?_)
 refine c_cut (X := Unit) (fun _u => [(1, .string p), (2, .pointer (some ⟨b2, 0, none⟩))]) (fun _u w' => (hasB p 111 == signB t.name) = true ∧ At M w' b2 0 [.int .u8 t.op, .string t.name, .string t.arg, .int .i64 t.n, .bool t.has, .int .u8 t.ann.op, .string t.ann.name, .int .i64 t.ann.n, akv, kv] ∧ Rep.R M w' (.agg #[.int .u8 t.ann.op, .string t.ann.name, .int .i64 t.ann.n, akv]) t.ann ∧ Low M w' ∧ Below w.heap.size w w' ∧ w.heap.size ≤ w'.heap.size) ?_ ?_
 ·refine c_seq ?_
  refine a_beg Ext rfl ?_
  intro w2 ew2
  replace hE := ew2.bl hE hB
  replace ht := Rep.ext ht ew2
  replace ha := Rep.ext ha ew2
  replace hk := hk.ext ew2
  replace h2 := h2.ext ew2
  replace hlow := hlow.ext ew2
  replace hB := ew2.z hB
  have hS : Ext w2 w2 := ext_refl _
  have D_hk := hk
  have D_h2 := h2
  refine a_p 0 tK rfl rfl rfl rfl (by kernel_rfl) (fun _ _ _ h => h) hS ?_
  refine a_p 2 tK rfl rfl rfl rfl (by kernel_rfl) (fun _ _ _ h => h) hS ?_
  refine a_ld 3 tK (fun _ hs => (D_h2.ext hs).cell 1 _ rfl) rfl rfl rfl rfl rfl rfl (by kernel_rfl) (fun _ _ _ h => h) hS ?_
  refine a_p 4 tK rfl rfl rfl rfl (by kernel_rfl) (fun _ _ _ h => h) hS ?_
  refine a_one 1 rfl (by kernel_rfl) (o_call fo49 rfl rfl rfl (hasR_spec p hp 111 _) ?_)
  rintro _ _ ⟨rfl, rfl⟩
  refine ⟨hS, ?_⟩
  refine a_p 5 tK rfl rfl rfl rfl (by kernel_rfl) (fun _ _ _ h => h) hS ?_
  refine a_splitP 10 _ rfl (fun c1 => ?_) (fun c1 => ?_)
  ·refine a_skip 6 rfl rfl rfl (by kernel_rfl) (fun _ _ _ h => h) hS ?_
   refine a_skip 7 rfl rfl rfl (by kernel_rfl) (fun _ _ _ h => h) hS ?_
   refine a_skip 8 rfl rfl rfl (by kernel_rfl) (fun _ _ _ h => h) hS ?_
   refine a_p 9 tK rfl rfl rfl rfl (by kernel_rfl) (fun _ _ _ h => h) hS ?_
   refine a_p 10 tK rfl rfl rfl rfl (by kernel_rfl) (fun _ _ _ h => h) hS ?_
   refine a_skip 11 rfl rfl rfl (by kernel_rfl) (fun _ _ _ h => h) hS ?_
   refine a_skip 12 rfl rfl rfl (by kernel_rfl) (fun _ _ _ h => h) hS ?_
   refine a_skip 13 rfl rfl rfl (by kernel_rfl) (fun _ _ _ h => h) hS ?_
   refine a_p 14 tK rfl rfl rfl rfl (by kernel_rfl) (fun _ _ _ h => h) hS ?_
   refine a_p 15 tK rfl rfl rfl rfl (by kernel_rfl) (fun _ _ _ h => h) hS ?_
   refine a_skip 16 rfl rfl rfl (by kernel_rfl) (fun _ _ _ h => h) hS ?_
   refine a_skip 17 rfl rfl rfl (by kernel_rfl) (fun _ _ _ h => h) hS ?_
   refine a_skip 18 rfl rfl rfl (by kernel_rfl) (fun _ _ _ h => h) hS ?_
   refine a_p 19 tK rfl rfl rfl rfl (by kernel_rfl) (fun _ _ _ h => h) hS ?_
   refine a_p 20 tK rfl rfl rfl rfl (by kernel_rfl) (fun _ _ _ h => h) hS ?_
   refine a_skip 21 rfl rfl rfl (by kernel_rfl) (fun _ _ _ h => h) hS ?_
   refine a_skip 22 rfl rfl rfl (by kernel_rfl) (fun _ _ _ h => h) hS ?_
   refine a_skip 23 rfl rfl rfl (by kernel_rfl) (fun _ _ _ h => h) hS ?_
   refine a_p 24 tK rfl rfl rfl rfl (by kernel_rfl) (fun _ _ _ h => h) hS ?_
   refine a_p 25 tK rfl rfl rfl rfl (by kernel_rfl) (fun _ _ _ h => h) hS ?_
   refine a_skip 26 rfl rfl rfl (by kernel_rfl) (fun _ _ _ h => h) hS ?_
   refine a_skip 27 rfl rfl rfl (by kernel_rfl) (fun _ _ _ h => h) hS ?_
   refine a_skip 28 rfl rfl rfl (by kernel_rfl) (fun _ _ _ h => h) hS ?_
   refine a_p 29 tK rfl rfl rfl rfl (by kernel_rfl) (fun _ _ _ h => h) hS ?_
   refine a_p 30 tK rfl rfl rfl rfl (by kernel_rfl) (fun _ _ _ h => h) hS ?_
   refine a_skip 31 rfl rfl rfl (by kernel_rfl) (fun _ _ _ h => h) hS ?_
   refine a_skip 32 rfl rfl rfl (by kernel_rfl) (fun _ _ _ h => h) hS ?_
   refine a_skip 33 rfl rfl rfl (by kernel_rfl) (fun _ _ _ h => h) hS ?_
   refine a_p 34 tK rfl rfl rfl rfl (by kernel_rfl) (fun _ _ _ h => h) hS ?_
   refine a_bar 35 rfl (by kernel_rfl) (by kernel_rfl) (o_bne tK rfl rfl rfl rfl rfl rfl ?_)
   refine a_end (by kernel_rfl) ?_
   refine x_seq ?_
   refine c_if _ rfl (fun c2 => ?_) (fun c2 => ?_)
   ·refine q0 (l_p 1 tK rfl (q1 (c_ret (x_seqR (x_ret1 rfl rfl ?_)))))
    refine ⟨?_, hE⟩
    have hA : ((hasB p 111 == signB t.name)) = false := by
     simp_all [signB]
    unfold partsB
    rw [hA]
    simp
   refine c_skip ?_
   have hA : (hasB p 111 == signB t.name) = true := by
    simp_all [signB]
   exact x_cut (()) (s2 rfl rfl) ⟨hA, h2, ha, hlow, hE, hB⟩
  refine a_p 6 tK rfl rfl rfl rfl (by kernel_rfl) (fun _ _ _ h => h) hS ?_
  refine a_ld 7 tK (fun _ hs => (D_h2.ext hs).cell 1 _ rfl) rfl rfl rfl rfl rfl rfl (by kernel_rfl) (fun _ _ _ h => h) hS ?_
  refine a_p 8 tK rfl rfl rfl rfl (by kernel_rfl) (fun _ _ _ h => h) hS ?_
  refine a_p 9 tK rfl rfl rfl rfl (by kernel_rfl) (fun _ _ _ h => h) hS ?_
  refine a_p 10 tK rfl rfl rfl rfl (by kernel_rfl) (fun _ _ _ h => h) hS ?_
  refine a_splitP 15 _ rfl (fun c3 => ?_) (fun c3 => ?_)
  ·refine a_skip 11 rfl rfl rfl (by kernel_rfl) (fun _ _ _ h => h) hS ?_
   refine a_skip 12 rfl rfl rfl (by kernel_rfl) (fun _ _ _ h => h) hS ?_
   refine a_skip 13 rfl rfl rfl (by kernel_rfl) (fun _ _ _ h => h) hS ?_
   refine a_p 14 tK rfl rfl rfl rfl (by kernel_rfl) (fun _ _ _ h => h) hS ?_
   refine a_p 15 tK rfl rfl rfl rfl (by kernel_rfl) (fun _ _ _ h => h) hS ?_
   refine a_skip 16 rfl rfl rfl (by kernel_rfl) (fun _ _ _ h => h) hS ?_
   refine a_skip 17 rfl rfl rfl (by kernel_rfl) (fun _ _ _ h => h) hS ?_
   refine a_skip 18 rfl rfl rfl (by kernel_rfl) (fun _ _ _ h => h) hS ?_
   refine a_p 19 tK rfl rfl rfl rfl (by kernel_rfl) (fun _ _ _ h => h) hS ?_
   refine a_p 20 tK rfl rfl rfl rfl (by kernel_rfl) (fun _ _ _ h => h) hS ?_
   refine a_skip 21 rfl rfl rfl (by kernel_rfl) (fun _ _ _ h => h) hS ?_
   refine a_skip 22 rfl rfl rfl (by kernel_rfl) (fun _ _ _ h => h) hS ?_
   refine a_skip 23 rfl rfl rfl (by kernel_rfl) (fun _ _ _ h => h) hS ?_
   refine a_p 24 tK rfl rfl rfl rfl (by kernel_rfl) (fun _ _ _ h => h) hS ?_
   refine a_p 25 tK rfl rfl rfl rfl (by kernel_rfl) (fun _ _ _ h => h) hS ?_
   refine a_skip 26 rfl rfl rfl (by kernel_rfl) (fun _ _ _ h => h) hS ?_
   refine a_skip 27 rfl rfl rfl (by kernel_rfl) (fun _ _ _ h => h) hS ?_
   refine a_skip 28 rfl rfl rfl (by kernel_rfl) (fun _ _ _ h => h) hS ?_
   refine a_p 29 tK rfl rfl rfl rfl (by kernel_rfl) (fun _ _ _ h => h) hS ?_
   refine a_p 30 tK rfl rfl rfl rfl (by kernel_rfl) (fun _ _ _ h => h) hS ?_
   refine a_skip 31 rfl rfl rfl (by kernel_rfl) (fun _ _ _ h => h) hS ?_
   refine a_skip 32 rfl rfl rfl (by kernel_rfl) (fun _ _ _ h => h) hS ?_
   refine a_skip 33 rfl rfl rfl (by kernel_rfl) (fun _ _ _ h => h) hS ?_
   refine a_p 34 tK rfl rfl rfl rfl (by kernel_rfl) (fun _ _ _ h => h) hS ?_
   refine a_bar 35 rfl (by kernel_rfl) (by kernel_rfl) (o_bne tK rfl rfl rfl rfl rfl rfl ?_)
   refine a_end (by kernel_rfl) ?_
   refine x_seq ?_
   refine c_if _ rfl (fun c4 => ?_) (fun c4 => ?_)
   ·refine q0 (l_p 1 tK rfl (q1 (c_ret (x_seqR (x_ret1 rfl rfl ?_)))))
    refine ⟨?_, hE⟩
    have hA : ((hasB p 111 == signB t.name)) = false := by
     simp_all [signB]
    unfold partsB
    rw [hA]
    simp
   refine c_skip ?_
   have hA : (hasB p 111 == signB t.name) = true := by
    simp_all [signB]
   exact x_cut (()) (s2 rfl rfl) ⟨hA, h2, ha, hlow, hE, hB⟩
  refine a_p 11 tK rfl rfl rfl rfl (by kernel_rfl) (fun _ _ _ h => h) hS ?_
  refine a_ld 12 tK (fun _ hs => (D_h2.ext hs).cell 1 _ rfl) rfl rfl rfl rfl rfl rfl (by kernel_rfl) (fun _ _ _ h => h) hS ?_
  refine a_p 13 tK rfl rfl rfl rfl (by kernel_rfl) (fun _ _ _ h => h) hS ?_
  refine a_p 14 tK rfl rfl rfl rfl (by kernel_rfl) (fun _ _ _ h => h) hS ?_
  refine a_p 15 tK rfl rfl rfl rfl (by kernel_rfl) (fun _ _ _ h => h) hS ?_
  refine a_splitP 20 _ rfl (fun c5 => ?_) (fun c5 => ?_)
  ·refine a_skip 16 rfl rfl rfl (by kernel_rfl) (fun _ _ _ h => h) hS ?_
   refine a_skip 17 rfl rfl rfl (by kernel_rfl) (fun _ _ _ h => h) hS ?_
   refine a_skip 18 rfl rfl rfl (by kernel_rfl) (fun _ _ _ h => h) hS ?_
   refine a_p 19 tK rfl rfl rfl rfl (by kernel_rfl) (fun _ _ _ h => h) hS ?_
   refine a_p 20 tK rfl rfl rfl rfl (by kernel_rfl) (fun _ _ _ h => h) hS ?_
   refine a_skip 21 rfl rfl rfl (by kernel_rfl) (fun _ _ _ h => h) hS ?_
   refine a_skip 22 rfl rfl rfl (by kernel_rfl) (fun _ _ _ h => h) hS ?_
   refine a_skip 23 rfl rfl rfl (by kernel_rfl) (fun _ _ _ h => h) hS ?_
   refine a_p 24 tK rfl rfl rfl rfl (by kernel_rfl) (fun _ _ _ h => h) hS ?_
   refine a_p 25 tK rfl rfl rfl rfl (by kernel_rfl) (fun _ _ _ h => h) hS ?_
   refine a_skip 26 rfl rfl rfl (by kernel_rfl) (fun _ _ _ h => h) hS ?_
   refine a_skip 27 rfl rfl rfl (by kernel_rfl) (fun _ _ _ h => h) hS ?_
   refine a_skip 28 rfl rfl rfl (by kernel_rfl) (fun _ _ _ h => h) hS ?_
   refine a_p 29 tK rfl rfl rfl rfl (by kernel_rfl) (fun _ _ _ h => h) hS ?_
   refine a_p 30 tK rfl rfl rfl rfl (by kernel_rfl) (fun _ _ _ h => h) hS ?_
   refine a_skip 31 rfl rfl rfl (by kernel_rfl) (fun _ _ _ h => h) hS ?_
   refine a_skip 32 rfl rfl rfl (by kernel_rfl) (fun _ _ _ h => h) hS ?_
   refine a_skip 33 rfl rfl rfl (by kernel_rfl) (fun _ _ _ h => h) hS ?_
   refine a_p 34 tK rfl rfl rfl rfl (by kernel_rfl) (fun _ _ _ h => h) hS ?_
   refine a_bar 35 rfl (by kernel_rfl) (by kernel_rfl) (o_bne tK rfl rfl rfl rfl rfl rfl ?_)
   refine a_end (by kernel_rfl) ?_
   refine x_seq ?_
   refine c_if _ rfl (fun c6 => ?_) (fun c6 => ?_)
   ·refine q0 (l_p 1 tK rfl (q1 (c_ret (x_seqR (x_ret1 rfl rfl ?_)))))
    refine ⟨?_, hE⟩
    have hA : ((hasB p 111 == signB t.name)) = false := by
     simp_all [signB]
    unfold partsB
    rw [hA]
    simp
   refine c_skip ?_
   have hA : (hasB p 111 == signB t.name) = true := by
    simp_all [signB]
   exact x_cut (()) (s2 rfl rfl) ⟨hA, h2, ha, hlow, hE, hB⟩
  refine a_p 16 tK rfl rfl rfl rfl (by kernel_rfl) (fun _ _ _ h => h) hS ?_
  refine a_ld 17 tK (fun _ hs => (D_h2.ext hs).cell 1 _ rfl) rfl rfl rfl rfl rfl rfl (by kernel_rfl) (fun _ _ _ h => h) hS ?_
  refine a_p 18 tK rfl rfl rfl rfl (by kernel_rfl) (fun _ _ _ h => h) hS ?_
  refine a_p 19 tK rfl rfl rfl rfl (by kernel_rfl) (fun _ _ _ h => h) hS ?_
  refine a_p 20 tK rfl rfl rfl rfl (by kernel_rfl) (fun _ _ _ h => h) hS ?_
  refine a_splitP 25 _ rfl (fun c7 => ?_) (fun c7 => ?_)
  ·refine a_skip 21 rfl rfl rfl (by kernel_rfl) (fun _ _ _ h => h) hS ?_
   refine a_skip 22 rfl rfl rfl (by kernel_rfl) (fun _ _ _ h => h) hS ?_
   refine a_skip 23 rfl rfl rfl (by kernel_rfl) (fun _ _ _ h => h) hS ?_
   refine a_p 24 tK rfl rfl rfl rfl (by kernel_rfl) (fun _ _ _ h => h) hS ?_
   refine a_p 25 tK rfl rfl rfl rfl (by kernel_rfl) (fun _ _ _ h => h) hS ?_
   refine a_skip 26 rfl rfl rfl (by kernel_rfl) (fun _ _ _ h => h) hS ?_
   refine a_skip 27 rfl rfl rfl (by kernel_rfl) (fun _ _ _ h => h) hS ?_
   refine a_skip 28 rfl rfl rfl (by kernel_rfl) (fun _ _ _ h => h) hS ?_
   refine a_p 29 tK rfl rfl rfl rfl (by kernel_rfl) (fun _ _ _ h => h) hS ?_
   refine a_p 30 tK rfl rfl rfl rfl (by kernel_rfl) (fun _ _ _ h => h) hS ?_
   refine a_skip 31 rfl rfl rfl (by kernel_rfl) (fun _ _ _ h => h) hS ?_
   refine a_skip 32 rfl rfl rfl (by kernel_rfl) (fun _ _ _ h => h) hS ?_
   refine a_skip 33 rfl rfl rfl (by kernel_rfl) (fun _ _ _ h => h) hS ?_
   refine a_p 34 tK rfl rfl rfl rfl (by kernel_rfl) (fun _ _ _ h => h) hS ?_
   refine a_bar 35 rfl (by kernel_rfl) (by kernel_rfl) (o_bne tK rfl rfl rfl rfl rfl rfl ?_)
   refine a_end (by kernel_rfl) ?_
   refine x_seq ?_
   refine c_if _ rfl (fun c8 => ?_) (fun c8 => ?_)
   ·refine q0 (l_p 1 tK rfl (q1 (c_ret (x_seqR (x_ret1 rfl rfl ?_)))))
    refine ⟨?_, hE⟩
    have hA : ((hasB p 111 == signB t.name)) = false := by
     simp_all [signB]
    unfold partsB
    rw [hA]
    simp
   refine c_skip ?_
   have hA : (hasB p 111 == signB t.name) = true := by
    simp_all [signB]
   exact x_cut (()) (s2 rfl rfl) ⟨hA, h2, ha, hlow, hE, hB⟩
  refine a_p 21 tK rfl rfl rfl rfl (by kernel_rfl) (fun _ _ _ h => h) hS ?_
  refine a_ld 22 tK (fun _ hs => (D_h2.ext hs).cell 1 _ rfl) rfl rfl rfl rfl rfl rfl (by kernel_rfl) (fun _ _ _ h => h) hS ?_
  refine a_p 23 tK rfl rfl rfl rfl (by kernel_rfl) (fun _ _ _ h => h) hS ?_
  refine a_p 24 tK rfl rfl rfl rfl (by kernel_rfl) (fun _ _ _ h => h) hS ?_
  refine a_p 25 tK rfl rfl rfl rfl (by kernel_rfl) (fun _ _ _ h => h) hS ?_
  refine a_splitP 30 _ rfl (fun c9 => ?_) (fun c9 => ?_)
  ·refine a_skip 26 rfl rfl rfl (by kernel_rfl) (fun _ _ _ h => h) hS ?_
   refine a_skip 27 rfl rfl rfl (by kernel_rfl) (fun _ _ _ h => h) hS ?_
   refine a_skip 28 rfl rfl rfl (by kernel_rfl) (fun _ _ _ h => h) hS ?_
   refine a_p 29 tK rfl rfl rfl rfl (by kernel_rfl) (fun _ _ _ h => h) hS ?_
   refine a_p 30 tK rfl rfl rfl rfl (by kernel_rfl) (fun _ _ _ h => h) hS ?_
   refine a_skip 31 rfl rfl rfl (by kernel_rfl) (fun _ _ _ h => h) hS ?_
   refine a_skip 32 rfl rfl rfl (by kernel_rfl) (fun _ _ _ h => h) hS ?_
   refine a_skip 33 rfl rfl rfl (by kernel_rfl) (fun _ _ _ h => h) hS ?_
   refine a_p 34 tK rfl rfl rfl rfl (by kernel_rfl) (fun _ _ _ h => h) hS ?_
   refine a_bar 35 rfl (by kernel_rfl) (by kernel_rfl) (o_bne tK rfl rfl rfl rfl rfl rfl ?_)
   refine a_end (by kernel_rfl) ?_
   refine x_seq ?_
   refine c_if _ rfl (fun c10 => ?_) (fun c10 => ?_)
   ·refine q0 (l_p 1 tK rfl (q1 (c_ret (x_seqR (x_ret1 rfl rfl ?_)))))
    refine ⟨?_, hE⟩
    have hA : ((hasB p 111 == signB t.name)) = false := by
     simp_all [signB]
    unfold partsB
    rw [hA]
    simp
   refine c_skip ?_
   have hA : (hasB p 111 == signB t.name) = true := by
    simp_all [signB]
   exact x_cut (()) (s2 rfl rfl) ⟨hA, h2, ha, hlow, hE, hB⟩
  refine a_p 26 tK rfl rfl rfl rfl (by kernel_rfl) (fun _ _ _ h => h) hS ?_
  refine a_ld 27 tK (fun _ hs => (D_h2.ext hs).cell 1 _ rfl) rfl rfl rfl rfl rfl rfl (by kernel_rfl) (fun _ _ _ h => h) hS ?_
  refine a_p 28 tK rfl rfl rfl rfl (by kernel_rfl) (fun _ _ _ h => h) hS ?_
  refine a_p 29 tK rfl rfl rfl rfl (by kernel_rfl) (fun _ _ _ h => h) hS ?_
  refine a_p 30 tK rfl rfl rfl rfl (by kernel_rfl) (fun _ _ _ h => h) hS ?_
  refine a_splitP 35 _ rfl (fun c11 => ?_) (fun c11 => ?_)
  ·refine a_skip 31 rfl rfl rfl (by kernel_rfl) (fun _ _ _ h => h) hS ?_
   refine a_skip 32 rfl rfl rfl (by kernel_rfl) (fun _ _ _ h => h) hS ?_
   refine a_skip 33 rfl rfl rfl (by kernel_rfl) (fun _ _ _ h => h) hS ?_
   refine a_p 34 tK rfl rfl rfl rfl (by kernel_rfl) (fun _ _ _ h => h) hS ?_
   refine a_bar 35 rfl (by kernel_rfl) (by kernel_rfl) (o_bne tK rfl rfl rfl rfl rfl rfl ?_)
   refine a_end (by kernel_rfl) ?_
   refine x_seq ?_
   refine c_if _ rfl (fun c12 => ?_) (fun c12 => ?_)
   ·refine q0 (l_p 1 tK rfl (q1 (c_ret (x_seqR (x_ret1 rfl rfl ?_)))))
    refine ⟨?_, hE⟩
    have hA : ((hasB p 111 == signB t.name)) = false := by
     simp_all [signB]
    unfold partsB
    rw [hA]
    simp
   refine c_skip ?_
   have hA : (hasB p 111 == signB t.name) = true := by
    simp_all [signB]
   exact x_cut (()) (s2 rfl rfl) ⟨hA, h2, ha, hlow, hE, hB⟩
  refine a_p 31 tK rfl rfl rfl rfl (by kernel_rfl) (fun _ _ _ h => h) hS ?_
  refine a_ld 32 tK (fun _ hs => (D_h2.ext hs).cell 1 _ rfl) rfl rfl rfl rfl rfl rfl (by kernel_rfl) (fun _ _ _ h => h) hS ?_
  refine a_p 33 tK rfl rfl rfl rfl (by kernel_rfl) (fun _ _ _ h => h) hS ?_
  refine a_p 34 tK rfl rfl rfl rfl (by kernel_rfl) (fun _ _ _ h => h) hS ?_
  refine a_bar 35 rfl (by kernel_rfl) (by kernel_rfl) (o_bne tK rfl rfl rfl rfl rfl rfl ?_)
  refine a_end (by kernel_rfl) ?_
  refine x_seq ?_
  refine c_if _ rfl (fun c13 => ?_) (fun c13 => ?_)
  ·refine q0 (l_p 1 tK rfl (q1 (c_ret (x_seqR (x_ret1 rfl rfl ?_)))))
   refine ⟨?_, hE⟩
   have hA : ((hasB p 111 == signB t.name)) = false := by
    simp_all [signB]
   unfold partsB
   rw [hA]
   simp
  refine c_skip ?_
  have hA : (hasB p 111 == signB t.name) = true := by
   simp_all [signB]
  exact x_cut (()) (s2 rfl rfl) ⟨hA, h2, ha, hlow, hE, hB⟩
 clear h2 ha hlow hE hB ht hk
 rintro _ w81 ⟨hA1, h2, ha, hlow, hE, hB⟩
 refine c_cut (X := Unit) (fun _u => [(1, .string p), (2, .pointer (some ⟨b2, 0, none⟩))]) (fun _u w' => (hasB p 111 || ((hasB p 110 == isWordB t.name) && (hasB p 110 || decide (t.name = ⟨#[]⟩)))) = true ∧ At M w' b2 0 [.int .u8 t.op, .string t.name, .string t.arg, .int .i64 t.n, .bool t.has, .int .u8 t.ann.op, .string t.ann.name, .int .i64 t.ann.n, akv, kv] ∧ Rep.R M w' (.agg #[.int .u8 t.ann.op, .string t.ann.name, .int .i64 t.ann.n, akv]) t.ann ∧ Low M w' ∧ Below w.heap.size w w' ∧ w.heap.size ≤ w'.heap.size) ?_ ?_
 ·refine c_seq ?_
  refine a_beg Ext rfl ?_
  intro w3 ew3
  replace hE := ew3.bl hE hB
  replace h2 := h2.ext ew3
  replace ha := Rep.ext ha ew3
  replace hlow := hlow.ext ew3
  replace hB := ew3.z hB
  have hS : Ext w3 w3 := ext_refl _
  have D_h2 := h2
  refine a_p 0 tK rfl rfl rfl rfl (by kernel_rfl) (fun _ _ _ h => h) hS ?_
  refine a_bar 1 rfl (by kernel_rfl) (by kernel_rfl) (o_call fo49 rfl rfl rfl (hasR_spec p hp 111 _) ?_)
  rintro _ _ ⟨rfl, rfl⟩
  refine a_p 2 tK rfl rfl rfl rfl (by kernel_rfl) (fun _ _ _ h => h) hS ?_
  refine a_p 3 tK rfl rfl rfl rfl (by kernel_rfl) (fun _ _ _ h => h) hS ?_
  refine a_splitB 44 _ rfl (fun c14 => ?_) (fun c14 => ?_)
  ·refine a_p 4 tK rfl rfl rfl rfl (by kernel_rfl) (fun _ _ _ h => h) hS ?_
   refine a_p 6 tK rfl rfl rfl rfl (by kernel_rfl) (fun _ _ _ h => h) hS ?_
   refine a_ld 7 tK (fun _ hs => (D_h2.ext hs).cell 1 _ rfl) rfl rfl rfl rfl rfl rfl (by kernel_rfl) (fun _ _ _ h => h) hS ?_
   refine a_one 5 rfl (by kernel_rfl) (o_call fo49 rfl rfl rfl (hasR_spec p hp 110 _) ?_)
   rintro _ _ ⟨rfl, rfl⟩
   refine ⟨hS, ?_⟩
   refine a_bar 8 rfl (by kernel_rfl) (by kernel_rfl) (o_call fo50 rfl rfl rfl (risWord_spec M _ _ (by first | exact nm | exact ag) hlow) ?_)
   rintro _ w4 ⟨rfl, ew4⟩
   replace hS := hS.then ew4
   replace hE := ew4.bl hE hB
   replace h2 := h2.ext ew4
   replace ha := Rep.ext ha ew4
   replace hlow := hlow.ext ew4
   replace hB := ew4.z hB
   refine a_bar 9 rfl (by kernel_rfl) (by kernel_rfl) (o_bne tK rfl rfl rfl rfl rfl rfl ?_)
   refine a_p 10 tK rfl rfl rfl rfl (by kernel_rfl) (fun _ _ _ h => h) hS ?_
   refine a_p 11 tK rfl rfl rfl rfl (by kernel_rfl) (fun _ _ _ h => h) hS ?_
   refine a_split 52 _ rfl (fun c15 => ?_) (fun c15 => ?_)
   ·refine a_skip 12 rfl rfl rfl (by kernel_rfl) (fun _ _ _ h => h) hS ?_
    refine a_skip 13 rfl rfl rfl (by kernel_rfl) (fun _ _ _ h => h) hS ?_
    refine a_skip 14 rfl rfl rfl (by kernel_rfl) (fun _ _ _ h => h) hS ?_
    refine a_skip 15 rfl rfl rfl (by kernel_rfl) (fun _ _ _ h => h) hS ?_
    refine a_skip 16 rfl rfl rfl (by kernel_rfl) (fun _ _ _ h => h) hS ?_
    refine a_skip 17 rfl rfl rfl (by kernel_rfl) (fun _ _ _ h => h) hS ?_
    refine a_skip 18 rfl rfl rfl (by kernel_rfl) (fun _ _ _ h => h) hS ?_
    refine a_skip 19 rfl rfl rfl (by kernel_rfl) (fun _ _ _ h => h) hS ?_
    refine a_skip 20 rfl rfl rfl (by kernel_rfl) (fun _ _ _ h => h) hS ?_
    refine a_skip 21 rfl rfl rfl (by kernel_rfl) (fun _ _ _ h => h) hS ?_
    refine a_skip 22 rfl rfl rfl (by kernel_rfl) (fun _ _ _ h => h) hS ?_
    refine a_skip 23 rfl rfl rfl (by kernel_rfl) (fun _ _ _ h => h) hS ?_
    refine a_skip 24 rfl rfl rfl (by kernel_rfl) (fun _ _ _ h => h) hS ?_
    refine a_p 25 tK rfl rfl rfl rfl (by kernel_rfl) (fun _ _ _ h => h) hS ?_
    refine a_end (by kernel_rfl) ?_
    refine x_seq (c_ifT rfl (q0 (l_p 1 tK rfl (q1 (c_ret (x_seqR (x_ret1 rfl rfl ?_)))))))
    refine ⟨?_, hE⟩
    have hA : ((hasB p 111 || ((hasB p 110 == isWordB t.name) && (hasB p 110 || decide (t.name = ⟨#[]⟩))))) = false := by
     simp_all
    unfold partsB
    rw [hA1, hA]
    simp
   refine a_p 12 tK rfl rfl rfl rfl (by kernel_rfl) (fun _ _ _ h => h) hS ?_
   refine a_bar 13 rfl (by kernel_rfl) (by kernel_rfl) (o_call fo49 rfl rfl rfl (hasR_spec p hp 111 _) ?_)
   rintro _ _ ⟨rfl, rfl⟩
   refine a_p 14 tK rfl rfl rfl rfl (by kernel_rfl) (fun _ _ _ h => h) hS ?_
   refine a_p 15 tK rfl rfl rfl rfl (by kernel_rfl) (fun _ _ _ h => h) hS ?_
   refine a_splitB 56 _ rfl (fun c16 => ?_) (fun c16 => ?_)
   ·refine a_p 16 tK rfl rfl rfl rfl (by kernel_rfl) (fun _ _ _ h => h) hS ?_
    refine a_bar 17 rfl (by kernel_rfl) (by kernel_rfl) (o_call fo49 rfl rfl rfl (hasR_spec p hp 110 _) ?_)
    rintro _ _ ⟨rfl, rfl⟩
    refine a_p 18 tK rfl rfl rfl rfl (by kernel_rfl) (fun _ _ _ h => h) hS ?_
    refine a_p 19 tK rfl rfl rfl rfl (by kernel_rfl) (fun _ _ _ h => h) hS ?_
    refine a_p 20 tK rfl rfl rfl rfl (by kernel_rfl) (fun _ _ _ h => h) hS ?_
    refine a_splitB 61 _ rfl (fun c17 => ?_) (fun c17 => ?_)
    ·refine a_p 21 tK rfl rfl rfl rfl (by kernel_rfl) (fun _ _ _ h => h) hS ?_
     refine a_ld 22 tK (fun _ hs => (D_h2.ext hs).cell 1 _ rfl) rfl rfl rfl rfl rfl rfl (by kernel_rfl) (fun _ _ _ h => h) hS ?_
     refine a_p 23 tK rfl rfl rfl rfl (by kernel_rfl) (fun _ _ _ h => h) hS ?_
     refine a_p 24 tK rfl rfl rfl rfl (by kernel_rfl) (fun _ _ _ h => h) hS ?_
     refine a_p 25 tK rfl rfl rfl rfl (by kernel_rfl) (fun _ _ _ h => h) hS ?_
     refine a_end (by kernel_rfl) ?_
     refine x_seq ?_
     refine c_ifN _ rfl (fun c18 => ?_) (fun c18 => ?_)
     ·refine q0 (l_p 1 tK rfl (q1 (c_ret (x_seqR (x_ret1 rfl rfl ?_)))))
      refine ⟨?_, hE⟩
      have hA : ((hasB p 111 || ((hasB p 110 == isWordB t.name) && (hasB p 110 || decide (t.name = ⟨#[]⟩))))) = false := by
       simp_all
      unfold partsB
      rw [hA1, hA]
      simp
     refine c_skip ?_
     have hA : (hasB p 111 || ((hasB p 110 == isWordB t.name) && (hasB p 110 || decide (t.name = ⟨#[]⟩)))) = true := by
      simp_all
     exact x_cut (()) (s2 rfl rfl) ⟨hA, h2, ha, hlow, hE, hB⟩
    refine a_skip 21 rfl rfl rfl (by kernel_rfl) (fun _ _ _ h => h) hS ?_
    refine a_skip 22 rfl rfl rfl (by kernel_rfl) (fun _ _ _ h => h) hS ?_
    refine a_skip 23 rfl rfl rfl (by kernel_rfl) (fun _ _ _ h => h) hS ?_
    refine a_p 24 tK rfl rfl rfl rfl (by kernel_rfl) (fun _ _ _ h => h) hS ?_
    refine a_p 25 tK rfl rfl rfl rfl (by kernel_rfl) (fun _ _ _ h => h) hS ?_
    refine a_end (by kernel_rfl) ?_
    refine x_seq (c_ifF rfl (c_skip ?_))
    have hA : (hasB p 111 || ((hasB p 110 == isWordB t.name) && (hasB p 110 || decide (t.name = ⟨#[]⟩)))) = true := by
     simp_all
    exact x_cut (()) (s2 rfl rfl) ⟨hA, h2, ha, hlow, hE, hB⟩
   refine a_skip 16 rfl rfl rfl (by kernel_rfl) (fun _ _ _ h => h) hS ?_
   refine a_skip 17 rfl rfl rfl (by kernel_rfl) (fun _ _ _ h => h) hS ?_
   refine a_skip 18 rfl rfl rfl (by kernel_rfl) (fun _ _ _ h => h) hS ?_
   refine a_p 19 tK rfl rfl rfl rfl (by kernel_rfl) (fun _ _ _ h => h) hS ?_
   refine a_p 20 tK rfl rfl rfl rfl (by kernel_rfl) (fun _ _ _ h => h) hS ?_
   refine a_skip 21 rfl rfl rfl (by kernel_rfl) (fun _ _ _ h => h) hS ?_
   refine a_skip 22 rfl rfl rfl (by kernel_rfl) (fun _ _ _ h => h) hS ?_
   refine a_skip 23 rfl rfl rfl (by kernel_rfl) (fun _ _ _ h => h) hS ?_
   refine a_p 24 tK rfl rfl rfl rfl (by kernel_rfl) (fun _ _ _ h => h) hS ?_
   refine a_p 25 tK rfl rfl rfl rfl (by kernel_rfl) (fun _ _ _ h => h) hS ?_
   refine a_end (by kernel_rfl) ?_
   refine x_seq (c_ifF rfl (c_skip ?_))
   have hA : (hasB p 111 || ((hasB p 110 == isWordB t.name) && (hasB p 110 || decide (t.name = ⟨#[]⟩)))) = true := by
    simp_all
   exact x_cut (()) (s2 rfl rfl) ⟨hA, h2, ha, hlow, hE, hB⟩
  refine a_skip 4 rfl rfl rfl (by kernel_rfl) (fun _ _ _ h => h) hS ?_
  refine a_skip 5 rfl rfl rfl (by kernel_rfl) (fun _ _ _ h => h) hS ?_
  refine a_skip 6 rfl rfl rfl (by kernel_rfl) (fun _ _ _ h => h) hS ?_
  refine a_skip 7 rfl rfl rfl (by kernel_rfl) (fun _ _ _ h => h) hS ?_
  refine a_skip 8 rfl rfl rfl (by kernel_rfl) (fun _ _ _ h => h) hS ?_
  refine a_skip 9 rfl rfl rfl (by kernel_rfl) (fun _ _ _ h => h) hS ?_
  refine a_p 10 tK rfl rfl rfl rfl (by kernel_rfl) (fun _ _ _ h => h) hS ?_
  refine a_p 11 tK rfl rfl rfl rfl (by kernel_rfl) (fun _ _ _ h => h) hS ?_
  refine a_p 12 tK rfl rfl rfl rfl (by kernel_rfl) (fun _ _ _ h => h) hS ?_
  refine a_bar 13 rfl (by kernel_rfl) (by kernel_rfl) (o_call fo49 rfl rfl rfl (hasR_spec p hp 111 _) ?_)
  rintro _ _ ⟨rfl, rfl⟩
  refine a_p 14 tK rfl rfl rfl rfl (by kernel_rfl) (fun _ _ _ h => h) hS ?_
  refine a_p 15 tK rfl rfl rfl rfl (by kernel_rfl) (fun _ _ _ h => h) hS ?_
  refine a_splitB 56 _ rfl (fun c19 => ?_) (fun c19 => ?_)
  ·refine a_p 16 tK rfl rfl rfl rfl (by kernel_rfl) (fun _ _ _ h => h) hS ?_
   refine a_bar 17 rfl (by kernel_rfl) (by kernel_rfl) (o_call fo49 rfl rfl rfl (hasR_spec p hp 110 _) ?_)
   rintro _ _ ⟨rfl, rfl⟩
   refine a_p 18 tK rfl rfl rfl rfl (by kernel_rfl) (fun _ _ _ h => h) hS ?_
   refine a_p 19 tK rfl rfl rfl rfl (by kernel_rfl) (fun _ _ _ h => h) hS ?_
   refine a_p 20 tK rfl rfl rfl rfl (by kernel_rfl) (fun _ _ _ h => h) hS ?_
   refine a_splitB 61 _ rfl (fun c20 => ?_) (fun c20 => ?_)
   ·refine a_p 21 tK rfl rfl rfl rfl (by kernel_rfl) (fun _ _ _ h => h) hS ?_
    refine a_ld 22 tK (fun _ hs => (D_h2.ext hs).cell 1 _ rfl) rfl rfl rfl rfl rfl rfl (by kernel_rfl) (fun _ _ _ h => h) hS ?_
    refine a_p 23 tK rfl rfl rfl rfl (by kernel_rfl) (fun _ _ _ h => h) hS ?_
    refine a_p 24 tK rfl rfl rfl rfl (by kernel_rfl) (fun _ _ _ h => h) hS ?_
    refine a_p 25 tK rfl rfl rfl rfl (by kernel_rfl) (fun _ _ _ h => h) hS ?_
    refine a_end (by kernel_rfl) ?_
    refine x_seq ?_
    refine c_ifN _ rfl (fun c21 => ?_) (fun c21 => ?_)
    ·refine q0 (l_p 1 tK rfl (q1 (c_ret (x_seqR (x_ret1 rfl rfl ?_)))))
     refine ⟨?_, hE⟩
     have hA : ((hasB p 111 || ((hasB p 110 == isWordB t.name) && (hasB p 110 || decide (t.name = ⟨#[]⟩))))) = false := by
      simp_all
     unfold partsB
     rw [hA1, hA]
     simp
    refine c_skip ?_
    have hA : (hasB p 111 || ((hasB p 110 == isWordB t.name) && (hasB p 110 || decide (t.name = ⟨#[]⟩)))) = true := by
     simp_all
    exact x_cut (()) (s2 rfl rfl) ⟨hA, h2, ha, hlow, hE, hB⟩
   refine a_skip 21 rfl rfl rfl (by kernel_rfl) (fun _ _ _ h => h) hS ?_
   refine a_skip 22 rfl rfl rfl (by kernel_rfl) (fun _ _ _ h => h) hS ?_
   refine a_skip 23 rfl rfl rfl (by kernel_rfl) (fun _ _ _ h => h) hS ?_
   refine a_p 24 tK rfl rfl rfl rfl (by kernel_rfl) (fun _ _ _ h => h) hS ?_
   refine a_p 25 tK rfl rfl rfl rfl (by kernel_rfl) (fun _ _ _ h => h) hS ?_
   refine a_end (by kernel_rfl) ?_
   refine x_seq (c_ifF rfl (c_skip ?_))
   have hA : (hasB p 111 || ((hasB p 110 == isWordB t.name) && (hasB p 110 || decide (t.name = ⟨#[]⟩)))) = true := by
    simp_all
   exact x_cut (()) (s2 rfl rfl) ⟨hA, h2, ha, hlow, hE, hB⟩
  refine a_skip 16 rfl rfl rfl (by kernel_rfl) (fun _ _ _ h => h) hS ?_
  refine a_skip 17 rfl rfl rfl (by kernel_rfl) (fun _ _ _ h => h) hS ?_
  refine a_skip 18 rfl rfl rfl (by kernel_rfl) (fun _ _ _ h => h) hS ?_
  refine a_p 19 tK rfl rfl rfl rfl (by kernel_rfl) (fun _ _ _ h => h) hS ?_
  refine a_p 20 tK rfl rfl rfl rfl (by kernel_rfl) (fun _ _ _ h => h) hS ?_
  refine a_skip 21 rfl rfl rfl (by kernel_rfl) (fun _ _ _ h => h) hS ?_
  refine a_skip 22 rfl rfl rfl (by kernel_rfl) (fun _ _ _ h => h) hS ?_
  refine a_skip 23 rfl rfl rfl (by kernel_rfl) (fun _ _ _ h => h) hS ?_
  refine a_p 24 tK rfl rfl rfl rfl (by kernel_rfl) (fun _ _ _ h => h) hS ?_
  refine a_p 25 tK rfl rfl rfl rfl (by kernel_rfl) (fun _ _ _ h => h) hS ?_
  refine a_end (by kernel_rfl) ?_
  refine x_seq (c_ifF rfl (c_skip ?_))
  have hA : (hasB p 111 || ((hasB p 110 == isWordB t.name) && (hasB p 110 || decide (t.name = ⟨#[]⟩)))) = true := by
   simp_all
  exact x_cut (()) (s2 rfl rfl) ⟨hA, h2, ha, hlow, hE, hB⟩
 clear h2 ha hlow hE hB
 rintro _ w82 ⟨hA2, h2, ha, hlow, hE, hB⟩
 refine c_cut (X := Unit) (fun _u => [(1, .string p), (2, .pointer (some ⟨b2, 0, none⟩))]) (fun _u w' => ((hasB p 97 == isWordB t.arg) && (hasB p 97 || decide (t.arg = ⟨#[]⟩))) = true ∧ At M w' b2 0 [.int .u8 t.op, .string t.name, .string t.arg, .int .i64 t.n, .bool t.has, .int .u8 t.ann.op, .string t.ann.name, .int .i64 t.ann.n, akv, kv] ∧ Rep.R M w' (.agg #[.int .u8 t.ann.op, .string t.ann.name, .int .i64 t.ann.n, akv]) t.ann ∧ Low M w' ∧ Below w.heap.size w w' ∧ w.heap.size ≤ w'.heap.size) ?_ ?_
 ·refine c_seq ?_
  refine a_beg Ext rfl ?_
  intro w5 ew5
  replace hE := ew5.bl hE hB
  replace h2 := h2.ext ew5
  replace ha := Rep.ext ha ew5
  replace hlow := hlow.ext ew5
  replace hB := ew5.z hB
  have hS : Ext w5 w5 := ext_refl _
  have D_h2 := h2
  refine a_p 0 tK rfl rfl rfl rfl (by kernel_rfl) (fun _ _ _ h => h) hS ?_
  refine a_p 2 tK rfl rfl rfl rfl (by kernel_rfl) (fun _ _ _ h => h) hS ?_
  refine a_ld 3 tK (fun _ hs => (D_h2.ext hs).cell 2 _ rfl) rfl rfl rfl rfl rfl rfl (by kernel_rfl) (fun _ _ _ h => h) hS ?_
  refine a_one 1 rfl (by kernel_rfl) (o_call fo49 rfl rfl rfl (hasR_spec p hp 97 _) ?_)
  rintro _ _ ⟨rfl, rfl⟩
  refine ⟨hS, ?_⟩
  refine a_bar 4 rfl (by kernel_rfl) (by kernel_rfl) (o_call fo50 rfl rfl rfl (risWord_spec M _ _ (by first | exact nm | exact ag) hlow) ?_)
  rintro _ w6 ⟨rfl, ew6⟩
  replace hS := hS.then ew6
  replace hE := ew6.bl hE hB
  replace h2 := h2.ext ew6
  replace ha := Rep.ext ha ew6
  replace hlow := hlow.ext ew6
  replace hB := ew6.z hB
  refine a_bar 5 rfl (by kernel_rfl) (by kernel_rfl) (o_bne tK rfl rfl rfl rfl rfl rfl ?_)
  refine a_p 6 tK rfl rfl rfl rfl (by kernel_rfl) (fun _ _ _ h => h) hS ?_
  refine a_split 73 _ rfl (fun c22 => ?_) (fun c22 => ?_)
  ·refine a_skip 7 rfl rfl rfl (by kernel_rfl) (fun _ _ _ h => h) hS ?_
   refine a_skip 8 rfl rfl rfl (by kernel_rfl) (fun _ _ _ h => h) hS ?_
   refine a_skip 9 rfl rfl rfl (by kernel_rfl) (fun _ _ _ h => h) hS ?_
   refine a_skip 10 rfl rfl rfl (by kernel_rfl) (fun _ _ _ h => h) hS ?_
   refine a_skip 11 rfl rfl rfl (by kernel_rfl) (fun _ _ _ h => h) hS ?_
   refine a_skip 12 rfl rfl rfl (by kernel_rfl) (fun _ _ _ h => h) hS ?_
   refine a_skip 13 rfl rfl rfl (by kernel_rfl) (fun _ _ _ h => h) hS ?_
   refine a_skip 14 rfl rfl rfl (by kernel_rfl) (fun _ _ _ h => h) hS ?_
   refine a_p 15 tK rfl rfl rfl rfl (by kernel_rfl) (fun _ _ _ h => h) hS ?_
   refine a_end (by kernel_rfl) ?_
   refine x_seq (c_ifT rfl (q0 (l_p 1 tK rfl (q1 (c_ret (x_seqR (x_ret1 rfl rfl ?_)))))))
   refine ⟨?_, hE⟩
   have hA : (((hasB p 97 == isWordB t.arg) && (hasB p 97 || decide (t.arg = ⟨#[]⟩)))) = false := by
    simp_all
   unfold partsB
   rw [hA1, hA2, hA]
   simp
  refine a_p 7 tK rfl rfl rfl rfl (by kernel_rfl) (fun _ _ _ h => h) hS ?_
  refine a_bar 8 rfl (by kernel_rfl) (by kernel_rfl) (o_call fo49 rfl rfl rfl (hasR_spec p hp 97 _) ?_)
  rintro _ _ ⟨rfl, rfl⟩
  refine a_p 9 tK rfl rfl rfl rfl (by kernel_rfl) (fun _ _ _ h => h) hS ?_
  refine a_p 10 tK rfl rfl rfl rfl (by kernel_rfl) (fun _ _ _ h => h) hS ?_
  refine a_splitB 77 _ rfl (fun c23 => ?_) (fun c23 => ?_)
  ·refine a_p 11 tK rfl rfl rfl rfl (by kernel_rfl) (fun _ _ _ h => h) hS ?_
   refine a_ld 12 tK (fun _ hs => (D_h2.ext hs).cell 2 _ rfl) rfl rfl rfl rfl rfl rfl (by kernel_rfl) (fun _ _ _ h => h) hS ?_
   refine a_p 13 tK rfl rfl rfl rfl (by kernel_rfl) (fun _ _ _ h => h) hS ?_
   refine a_p 14 tK rfl rfl rfl rfl (by kernel_rfl) (fun _ _ _ h => h) hS ?_
   refine a_p 15 tK rfl rfl rfl rfl (by kernel_rfl) (fun _ _ _ h => h) hS ?_
   refine a_end (by kernel_rfl) ?_
   refine x_seq ?_
   refine c_ifN _ rfl (fun c24 => ?_) (fun c24 => ?_)
   ·refine q0 (l_p 1 tK rfl (q1 (c_ret (x_seqR (x_ret1 rfl rfl ?_)))))
    refine ⟨?_, hE⟩
    have hA : (((hasB p 97 == isWordB t.arg) && (hasB p 97 || decide (t.arg = ⟨#[]⟩)))) = false := by
     simp_all
    unfold partsB
    rw [hA1, hA2, hA]
    simp
   refine c_skip ?_
   have hA : ((hasB p 97 == isWordB t.arg) && (hasB p 97 || decide (t.arg = ⟨#[]⟩))) = true := by
    simp_all
   exact x_cut (()) (s2 rfl rfl) ⟨hA, h2, ha, hlow, hE, hB⟩
  refine a_skip 11 rfl rfl rfl (by kernel_rfl) (fun _ _ _ h => h) hS ?_
  refine a_skip 12 rfl rfl rfl (by kernel_rfl) (fun _ _ _ h => h) hS ?_
  refine a_skip 13 rfl rfl rfl (by kernel_rfl) (fun _ _ _ h => h) hS ?_
  refine a_p 14 tK rfl rfl rfl rfl (by kernel_rfl) (fun _ _ _ h => h) hS ?_
  refine a_p 15 tK rfl rfl rfl rfl (by kernel_rfl) (fun _ _ _ h => h) hS ?_
  refine a_end (by kernel_rfl) ?_
  refine x_seq (c_ifF rfl (c_skip ?_))
  have hA : ((hasB p 97 == isWordB t.arg) && (hasB p 97 || decide (t.arg = ⟨#[]⟩))) = true := by
   simp_all
  exact x_cut (()) (s2 rfl rfl) ⟨hA, h2, ha, hlow, hE, hB⟩
 clear h2 ha hlow hE hB
 rintro _ w83 ⟨hA3, h2, ha, hlow, hE, hB⟩
 refine c_cut (X := Unit) (fun _u => [(1, .string p), (2, .pointer (some ⟨b2, 0, none⟩))]) (fun _u w' => (decide (0 ≤ t.n) && (!decide (0 < t.n) || (hasB p 105 || (hasB p 98 && decide (t.n = 1))))) = true ∧ At M w' b2 0 [.int .u8 t.op, .string t.name, .string t.arg, .int .i64 t.n, .bool t.has, .int .u8 t.ann.op, .string t.ann.name, .int .i64 t.ann.n, akv, kv] ∧ Rep.R M w' (.agg #[.int .u8 t.ann.op, .string t.ann.name, .int .i64 t.ann.n, akv]) t.ann ∧ Low M w' ∧ Below w.heap.size w w' ∧ w.heap.size ≤ w'.heap.size) ?_ ?_
 ·refine q0 (l_p 1 tK rfl ?_)
  refine lC (o_ld tK (h2.cell 3 _ rfl) rfl rfl rfl rfl rfl ?_)
  refine l_p 2 tK rfl ?_
  refine l_splitP 86 _ rfl (fun c25 => ?_) (fun c25 => ?_)
  ·refine l_p 19 tK rfl (q1 (c_ifT rfl (q0 (l_p 1 tK rfl (q1 (c_ret (x_seqR (x_ret1 rfl rfl ?_))))))))
   refine ⟨?_, hE⟩
   have hA : ((decide (0 ≤ t.n) && (!decide (0 < t.n) || (hasB p 105 || (hasB p 98 && decide (t.n = 1)))))) = false := by
    simp_all <;> omega
   unfold partsB
   rw [hA1, hA2, hA3, hA]
   simp
  refine l_p 1 tK rfl ?_
  refine lC (o_ld tK (h2.cell 3 _ rfl) rfl rfl rfl rfl rfl ?_)
  refine l_p 2 tK rfl ?_
  refine l_splitP 90 _ rfl (fun c26 => ?_) (fun c26 => ?_)
  ·refine l_p 1 tK rfl ?_
   refine lC (o_call fo49 rfl rfl rfl (hasR_spec p hp 105 _) ?_)
   rintro _ _ ⟨rfl, rfl⟩
   refine l_p 3 tK rfl ?_
   refine l_splitB 95 _ rfl (fun c27 => ?_) (fun c27 => ?_)
   ·refine l_p 1 tK rfl ?_
    refine lC (o_call fo49 rfl rfl rfl (hasR_spec p hp 98 _) ?_)
    rintro _ _ ⟨rfl, rfl⟩
    refine l_p 1 tK rfl ?_
    refine l_split 98 _ rfl (fun c28 => ?_) (fun c28 => ?_)
    ·refine l_p 1 tK rfl ?_
     refine lC (o_ld tK (h2.cell 3 _ rfl) rfl rfl rfl rfl rfl ?_)
     refine l_p 5 tK rfl (q1 ?_)
     refine c_ifN _ rfl (fun c29 => ?_) (fun c29 => ?_)
     ·refine q0 (l_p 1 tK rfl (q1 (c_ret (x_seqR (x_ret1 rfl rfl ?_)))))
      refine ⟨?_, hE⟩
      have hA : ((decide (0 ≤ t.n) && (!decide (0 < t.n) || (hasB p 105 || (hasB p 98 && decide (t.n = 1)))))) = false := by
       simp_all <;> omega
      unfold partsB
      rw [hA1, hA2, hA3, hA]
      simp
     refine c_skip ?_
     have hA : (decide (0 ≤ t.n) && (!decide (0 < t.n) || (hasB p 105 || (hasB p 98 && decide (t.n = 1))))) = true := by
      simp_all <;> omega
     exact x_cut (()) (s2 rfl rfl) ⟨hA, h2, ha, hlow, hE, hB⟩
    refine l_p 7 tK rfl (q1 (c_ifT rfl (q0 (l_p 1 tK rfl (q1 (c_ret (x_seqR (x_ret1 rfl rfl ?_))))))))
    refine ⟨?_, hE⟩
    have hA : ((decide (0 ≤ t.n) && (!decide (0 < t.n) || (hasB p 105 || (hasB p 98 && decide (t.n = 1)))))) = false := by
     simp_all <;> omega
    unfold partsB
    rw [hA1, hA2, hA3, hA]
    simp
   refine l_p 10 tK rfl (q1 (c_ifF rfl (c_skip ?_)))
   have hA : (decide (0 ≤ t.n) && (!decide (0 < t.n) || (hasB p 105 || (hasB p 98 && decide (t.n = 1))))) = true := by
    simp_all <;> omega
   exact x_cut (()) (s2 rfl rfl) ⟨hA, h2, ha, hlow, hE, hB⟩
  refine l_p 15 tK rfl (q1 (c_ifF rfl (c_skip ?_)))
  have hA : (decide (0 ≤ t.n) && (!decide (0 < t.n) || (hasB p 105 || (hasB p 98 && decide (t.n = 1))))) = true := by
   simp_all <;> omega
  exact x_cut (()) (s2 rfl rfl) ⟨hA, h2, ha, hlow, hE, hB⟩
 clear h2 ha hlow hE hB
 rintro _ w84 ⟨hA4, h2, ha, hlow, hE, hB⟩
 refine c_seq (q0 (l_p 1 tK rfl ?_))
 refine lC (o_ld tK (h2.cell 4 _ rfl) rfl rfl rfl rfl rfl ?_)
 refine l_p 1 tK rfl (q1 ?_)
 refine c_ifB _ rfl (fun c30 => ?_) (fun c30 => ?_)
 ·refine q0 (l_p 1 tK rfl ?_)
  refine lC (o_call fo49 rfl rfl rfl (hasR_spec p hp 84 _) ?_)
  rintro _ _ ⟨rfl, rfl⟩
  refine l_p 2 tK rfl ?_
  refine l_splitB 112 _ rfl (fun c31 => ?_) (fun c31 => ?_)
  ·refine l_p 1 tK rfl ?_
   refine lC (o_lds tK (fun j v hv => (h2).mid 5 (sub := [.int .u8 t.ann.op, .string t.ann.name, .int .i64 t.ann.n, akv]) rfl j v hv) rfl rfl rfl rfl rfl rfl ?_)
   refine lC (o_call fo51 rfl rfl rfl (zero_spec _ _ _ _ ha hlow) ?_)
   rintro _ w7 ⟨rfl, ew7⟩
   replace hE := ew7.bl hE hB
   replace h2 := h2.ext ew7
   replace ha := Rep.ext ha ew7
   replace hlow := hlow.ext ew7
   replace hB := ew7.z hB
   refine l_p 2 tK rfl (q1 (c_ret (x_seqR (x_ret1 rfl rfl ?_))))
   refine ⟨?_, hE⟩
   unfold partsB
   rw [hA1, hA2, hA3, hA4]
   simp_all
  refine l_p 5 tK rfl (q1 (c_ret (x_seqR (x_ret1 rfl rfl ?_))))
  refine ⟨?_, hE⟩
  unfold partsB
  rw [hA1, hA2, hA3, hA4]
  simp_all
 refine c_skip (x_seq (q0 (l_p 1 tK rfl ?_)))
 refine lC (o_call fo49 rfl rfl rfl (hasR_spec p hp 84 _) ?_)
 rintro _ _ ⟨rfl, rfl⟩
 refine l_p 1 tK rfl ?_
 refine l_split 119 _ rfl (fun c32 => ?_) (fun c32 => ?_)
 ·refine l_p 5 tK rfl ?_
  refine lC (o_lds tK (fun j v hv => (h2).mid 5 (sub := [.int .u8 t.ann.op, .string t.ann.name, .int .i64 t.ann.n, akv]) rfl j v hv) rfl rfl rfl rfl rfl rfl ?_)
  refine lC (o_call fo52 rfl rfl rfl (refRight_spec _ _ _ _ ha hlow hz) ?_)
  rintro _ w8 ⟨rfl, ew8⟩
  replace hE := ew8.bl hE hB
  replace h2 := h2.ext ew8
  replace ha := Rep.ext ha ew8
  replace hlow := hlow.ext ew8
  replace hB := ew8.z hB
  refine l_p 2 tK rfl ?_
  refine l_split 128 _ rfl (fun c33 => ?_) (fun c33 => ?_)
  ·refine l_p 1 tK rfl ?_
   refine lC (o_lds tK (fun j v hv => (h2).mid 5 (sub := [.int .u8 t.ann.op, .string t.ann.name, .int .i64 t.ann.n, akv]) rfl j v hv) rfl rfl rfl rfl rfl rfl ?_)
   have hsh : shapeF t.ann 116 = true := by
    have h9 : rightB t.ann = true := by assumption
    unfold rightB at h9; simp_all
   refine lC (o_call fo53 rfl rfl rfl (refVars_spec t.ann 116 _ _ _ hsh ha hlow hz) ?_)
   rintro vhv w9 ⟨hv, ew9⟩
   replace hE := ew9.bl hE hB
   replace h2 := h2.ext ew9
   replace ha := Rep.ext ha ew9
   replace hlow := hlow.ext ew9
   replace hB := ew9.z hB
   refine lC (o_len tK hv rfl rfl rfl rfl rfl ?_)
   refine l_p 3 tK rfl (q1 (c_ret (x_ret1 rfl rfl ?_)))
   refine ⟨?_, hE⟩
   unfold partsB
   rw [hA1, hA2, hA3, hA4]
   simp_all
  refine l_p 7 tK rfl (q1 (c_ret (x_ret1 rfl rfl ?_)))
  refine ⟨?_, hE⟩
  unfold partsB
  rw [hA1, hA2, hA3, hA4]
  simp_all
 refine l_p 1 tK rfl ?_
 refine lC (o_call fo49 rfl rfl rfl (hasR_spec p hp 116 _) ?_)
 rintro _ _ ⟨rfl, rfl⟩
 refine l_p 2 tK rfl ?_
 refine l_split 123 _ rfl (fun c34 => ?_) (fun c34 => ?_)
 ·refine l_p 1 tK rfl ?_
  refine lC (o_lds tK (fun j v hv => (h2).mid 5 (sub := [.int .u8 t.ann.op, .string t.ann.name, .int .i64 t.ann.n, akv]) rfl j v hv) rfl rfl rfl rfl rfl rfl ?_)
  refine lC (o_call fo52 rfl rfl rfl (refRight_spec _ _ _ _ ha hlow hz) ?_)
  rintro _ w10 ⟨rfl, ew10⟩
  replace hE := ew10.bl hE hB
  replace h2 := h2.ext ew10
  replace ha := Rep.ext ha ew10
  replace hlow := hlow.ext ew10
  replace hB := ew10.z hB
  refine l_p 2 tK rfl ?_
  refine l_split 128 _ rfl (fun c35 => ?_) (fun c35 => ?_)
  ·refine l_p 1 tK rfl ?_
   refine lC (o_lds tK (fun j v hv => (h2).mid 5 (sub := [.int .u8 t.ann.op, .string t.ann.name, .int .i64 t.ann.n, akv]) rfl j v hv) rfl rfl rfl rfl rfl rfl ?_)
   have hsh : shapeF t.ann 116 = true := by
    have h9 : rightB t.ann = true := by assumption
    unfold rightB at h9; simp_all
   refine lC (o_call fo53 rfl rfl rfl (refVars_spec t.ann 116 _ _ _ hsh ha hlow hz) ?_)
   rintro vhv w11 ⟨hv, ew11⟩
   replace hE := ew11.bl hE hB
   replace h2 := h2.ext ew11
   replace ha := Rep.ext ha ew11
   replace hlow := hlow.ext ew11
   replace hB := ew11.z hB
   refine lC (o_len tK hv rfl rfl rfl rfl rfl ?_)
   refine l_p 3 tK rfl (q1 (c_ret (x_ret1 rfl rfl ?_)))
   refine ⟨?_, hE⟩
   unfold partsB
   rw [hA1, hA2, hA3, hA4]
   simp_all
  refine l_p 7 tK rfl (q1 (c_ret (x_ret1 rfl rfl ?_)))
  refine ⟨?_, hE⟩
  unfold partsB
  rw [hA1, hA2, hA3, hA4]
  simp_all
 refine l_p 12 tK rfl (q1 (c_ret (x_ret1 rfl rfl ?_)))
 refine ⟨?_, hE⟩
 unfold partsB
 rw [hA1, hA2, hA3, hA4]
 simp_all
end Go.Proofs.YtohfnpmehgpphaaGreat
namespace Go.Proofs.YtohfnpmehgpphaaGreat
open Go Rw Go.RowKit
set_option maxRecDepth 100000
theorem keys_spec (b : Nat) (w : World) : Calls Tryz.prog 36 #[.map (some b)] w (Ret fun r w' => r = .func (.func 62) #[] #[.pointer (some ⟨w.heap.size, 0, none⟩)] ∧ w' = w.alloc (.cells #[.map (some b)] 50) ∧ Ext w w') :=
 (callsIn_wide.1 (Tryz.maps_Keys_36 (some b) w)).mono (fun e w' h => h.1 ▸ ⟨rfl, h.2, h.2 ▸ ext_alloc _ _⟩)
theorem sorted_spec (b : Nat) (l : List (ByteArray × Bool)) (w w2 : World) (hw2 : w2 = w.alloc (.cells #[.map (some b)] 50)) (hm : MapL (fun x : Bool => Value.bool x) w b l) (hn : NK 1000000000 l) (M : Nat → Prop) (hlow : Low M w2) :
  Calls Tryz.prog 35 #[.func (.func 62) #[] #[.pointer (some ⟨w.heap.size, 0, none⟩)]] w2 (Ret fun r w' => Sl M w' r (sortB (l.map (·.1))) ∧ Ext w2 w') := by
 obtain ⟨D, hown, hsz, hpm⟩ := maps_own (k := 9) (P := Tryz.prog) Tryz.underlying9 hm (by have := hn.1; simp only [maxLen]; omega) (fun p hp => by have := hn.2 p hp; simp only [maxLen]; omega)
 have hc := callsIn_wide.1 (Tryz.slices_Sorted_keys_35_36 b _ D _ w hown (by have := hn.1; simp only [maxLen]; omega) (by have := hn.1; omega))
 rw [← hw2] at hc
 refine hc.mono ?_
 rintro _ w' ⟨v, ss, rfl, hss, hrow, _, hE⟩
 have hpp : ss.Perm ((l.map (·.1)).map (·.data.toList)) := by rw [List.map_map]; exact hss.trans hpm
 have hsort : (ss.mergeSort leB).map strT = sortB (l.map (·.1)) := sort_of_perm hpp
 have hlen : (sortB (l.map (·.1))).length = ss.length := by rw [← hsort, List.length_map, List.length_mergeSort]
 have hll : ss.length = l.length := by rw [hpp.length_eq]; simp
 refine ⟨row_texts (B := w2.heap.size) (e := 9) ?_ (by have := hn.1; omega) (fun x hx => ?_) hlow, hE⟩
 ·rw [hlen, ← hsort, List.map_map]
  exact hrow
 ·obtain ⟨p, hp, rfl⟩ := List.mem_map.1 ((sortB_perm _).mem_iff.1 hx)
  exact hn.2 p hp
theorem free_spec (t : Tm) (M : Nat → Prop) (w : World) (v : Value) (ht : Rep.R M w v t) (hlow0 : Low M w) (hz : AnnS t) (hn9 : nsz t ≤ 400000000) :
  Calls Tryz.prog 18 #[v] w (Ret fun r w' => Sl M w' r (bif rightT t false then freeS t else []) ∧ Ext w w') := by
 have hnk := (NK.down t (rep_names t ht) 0 ([], []) ⟨Nat.le_refl _, fun p hp => by cases hp⟩).mono (m := 1000000000) (by omega)
 have hlow := hlow0
 have hB : w.heap.size ≤ w.heap.size := Nat.le_refl _
 have hE : Below w.heap.size w w := Below.refl _ _
 have hsub : ∀ b, M b → M b := fun _ h => h
 obtain ⟨akv, kv, rfl, op, nm, ag, n64, ha, hk⟩ := tm_open ht
 refine c_enter (n := 16) Tryz.func18 rfl rfl rfl ?_
 refine q0 ?_
 refine lC (o_box rfl rfl rfl ?_)
 intro b1 w1 hb_b1 ew1 h1
 replace h1 : Box _ b1 28 [.int .u8 t.op, .string t.name, .string t.arg, .int .i64 t.n, .bool t.has, .int .u8 t.ann.op, .string t.ann.name, .int .i64 t.ann.n, akv, kv] := h1
 replace h1 := h1.at (nM_of hlow hb_b1)
 replace hE := ew1.bl hE hB
 replace ht := Rep.ext ht ew1
 replace ha := Rep.ext ha ew1
 replace hk := hk.ext ew1
 replace hlow := hlow.ext ew1
 replace hB := ew1.z hB
 refine l_p 1 tK rfl (q1 (c_seq (q0 ?_)))
 refine lC (o_lds tK (fun j v hv => h1.cell j v hv) rfl rfl rfl rfl rfl rfl ?_)
 refine lC (o_call fo9 rfl rfl rfl (tRight_spec t _ _ _ ht hlow hz) ?_)
 rintro _ w2 ⟨rfl, ew2⟩
 replace hE := ew2.bl hE hB
 replace ht := Rep.ext ht ew2
 replace ha := Rep.ext ha ew2
 replace hk := hk.ext ew2
 replace h1 := h1.ext ew2
 replace hlow := hlow.ext ew2
 replace hB := ew2.z hB
 refine l_p 1 tK rfl (q1 ?_)
 refine c_ifB _ rfl (fun hr => ?_) (fun hr => ?_)
 ·refine q0 (l_p 1 tK rfl (q1 (c_ret (x_seqR (x_ret1 rfl rfl ?_)))))
  exact ⟨by rw [show rightT t false = false by simpa using hr]; exact sl_nil, hE⟩
 refine c_skip (x_seq (q0 ?_))
 refine lC (o_mkmap (κ := ByteArray) (ν := Int) (va := (fun x : Int => Value.int .i64 x)) rfl rfl ?_)
 intro bm w3 qbm ew3 ltbm hbm
 have sw3 := Stp.add ew3 hlow hB (Nat.le_of_eq qbm.symm) ltbm
 have hm : OM (κ := ByteArray) (fun x : Int => Value.int .i64 x) w.heap.size (Rw.Add M bm) w3 bm [] := OM.mk' hbm qbm hB
 replace hE := hE.trans sw3.below
 replace ht := Rep.stp ht sw3
 replace ha := Rep.stp ha sw3
 replace hk := hk.stp sw3
 replace h1 := h1.stp sw3
 replace hsub := sw3.sb hsub
 replace hlow := sw3.low
 replace hB := sw3.z hB
 refine lC (o_mkmap (κ := ByteArray) (ν := Bool) (va := (fun x : Bool => Value.bool x)) rfl rfl ?_)
 intro fm w4 qfm ew4 ltfm hfm
 have ne_hm_hf : bm ≠ fm := by have := hm.lt; omega
 have sw4 := Stp.add ew4 hlow hB (Nat.le_of_eq qfm.symm) ltfm
 have hf : OM (κ := ByteArray) (fun x : Bool => Value.bool x) w.heap.size (Rw.Add (Rw.Add M bm) fm) w4 fm [] := OM.mk' hfm qfm hB
 replace hm := hm.stp sw4 (ew4.block bm hm.lt)
 replace hE := hE.trans sw4.below
 replace ht := Rep.stp ht sw4
 replace ha := Rep.stp ha sw4
 replace hk := hk.stp sw4
 replace h1 := h1.stp sw4
 replace hsub := sw4.sb hsub
 replace hlow := sw4.low
 replace hB := sw4.z hB
 refine lC (o_build (cells := [.map (some bm), .map (some fm)]) (css := [[.map (some bm)], [.map (some fm)]]) bd52 rfl rfl rfl rfl rfl ?_)
 refine lC (o_new tK rfl rfl rfl ?_)
 intro np w5 qnp ew5 hnp
 have nnp := nM_of hlow qnp
 refine lC (o_st tK hnp rfl rfl rfl rfl (by intro u hu; simp [Value.cells] at hu; rcases hu with rfl | rfl <;> rfl) rfl rfl ?_)
 intro w6 hnp uw6 bew6
 have ew6 : Ext w4 w6 := ew5.trans (bew6 _ (Nat.le_of_eq qnp.symm))
 replace hm := hm.ext hlow hB ew6
 replace hf := hf.ext hlow hB ew6
 replace hE := ew6.bl hE hB
 replace ht := Rep.ext ht ew6
 replace ha := Rep.ext ha ew6
 replace hk := hk.ext ew6
 replace h1 := h1.ext ew6
 replace hlow := hlow.ext ew6
 replace hB := ew6.z hB
 replace hnp := hnp.at nnp
 refine q1 (q0 ?_)
 refine lC (o_lds tK (fun j v hv => h1.cell j v hv) rfl rfl rfl rfl rfl rfl ?_)
 refine lC (o_call fo34 rfl rfl rfl (down_spec t 0 ([], []) (Rw.Add (Rw.Add M bm) fm) _ w.heap.size _ np bm fm false (by simpa using hr) ht hnp hm hf (ne_hm_hf) hlow hB (fun s => ⟨Int.le_refl _, Int.le_refl _⟩) (by omega)) ?_)
 rintro _ w7 ⟨rfl, hmw7, hfw7, sw7, kw7⟩
 replace hE := hE.trans sw7.below
 replace ht := Rep.stp ht sw7
 replace ha := Rep.stp ha sw7
 replace hk := hk.stp sw7
 replace h1 := h1.stp sw7
 replace hnp := hnp.stp sw7
 replace hsub := sw7.sb hsub
 replace hlow := sw7.low
 replace hB := sw7.z hB
 replace hm := hmw7
 replace hf := hfw7
 clear hmw7 hfw7
 refine q1 (q0 (l_p 1 tK rfl ?_))
 refine lC (o_ld tK (hnp.cell 1 _ rfl) rfl rfl rfl rfl rfl ?_)
 have hfk := hf.map
 refine lC (o_call fo36 rfl rfl rfl (keys_spec _ _) ?_)
 rintro _ w8 ⟨rfl, hkw8, ew8⟩
 replace hm := hm.ext hlow hB ew8
 replace hf := hf.ext hlow hB ew8
 replace hE := ew8.bl hE hB
 replace ht := Rep.ext ht ew8
 replace ha := Rep.ext ha ew8
 replace hk := hk.ext ew8
 replace h1 := h1.ext ew8
 replace hnp := hnp.ext ew8
 replace hlow := hlow.ext ew8
 replace hB := ew8.z hB
 refine lC (o_call fo35 rfl rfl rfl (sorted_spec fm _ _ _ hkw8 hfk hnk (Rw.Add (Rw.Add M bm) fm) hlow) ?_)
 rintro vhs w9 ⟨hs, ew9⟩
 replace hm := hm.ext hlow hB ew9
 replace hf := hf.ext hlow hB ew9
 replace hE := ew9.bl hE hB
 replace ht := Rep.ext ht ew9
 replace ha := Rep.ext ha ew9
 replace hk := hk.ext ew9
 replace h1 := h1.ext ew9
 replace hnp := hnp.ext ew9
 replace hlow := hlow.ext ew9
 replace hB := ew9.z hB
 refine l_p 1 tK rfl (q1 (c_ret (x_ret1 rfl rfl ?_)))
 refine ⟨?_, hE⟩
 rw [show rightT t false = true by simpa using hr]
 exact hs.wk (fun b hb => hsub b)
theorem texts_spec (l k : List ByteArray) (M : Nat → Prop) (w : World) (v u : Value) (hs : Sl M w v l) (hk : Sl M w u k) :
  Calls Tryz.prog 21 #[v, u] w (Ret fun r w' => r = .bool (decide (l = k)) ∧ Ext w w') := by
 have hE : Below w.heap.size w w := Below.refl _ _
 have hB : w.heap.size ≤ w.heap.size := Nat.le_refl _
 have hlt := hs.lt
 have hkt := hk.lt
 refine c_enter (n := 26) Tryz.func21 rfl rfl rfl ?_
 refine q0 (l_p 1 tK rfl (q1 (c_seq (q0 (l_p 1 tK rfl ?_)))))
 refine lC (o_len tK hs rfl rfl rfl rfl rfl ?_)
 refine l_p 1 tK rfl ?_
 refine lC (o_len tK hk rfl rfl rfl rfl rfl ?_)
 refine l_p 1 tK rfl (q1 ?_)
 refine c_ifN _ rfl (fun c1 => ?_) (fun c1 => ?_)
 ·refine q0 (l_p 1 tK rfl (q1 (c_ret (x_seqR (x_ret1 rfl rfl ?_)))))
  exact ⟨by rw [decide_eq_false (fun e : l = k => by subst e; omega)], hE⟩
 refine c_skip (x_seq (c_seq (q0 (l_p 1 tK rfl (q1 (c_blk ?_))))))
 have hll : l.length = k.length := by omega
 refine c_loop (X := Nat) (fun i => [(0, v), (1, u), (5, .int .i64 (i : Nat))]) (fun i w' => i ≤ l.length ∧ l.take i = k.take i ∧ Sl M w' v l ∧ Sl M w' u k ∧ Below w.heap.size w w' ∧ w.heap.size ≤ w'.heap.size) (fun i => l.length - i) (0) (s3 rfl rfl rfl) ?_ ?_
 ·exact ⟨Nat.zero_le _, rfl, hs, hk, hE, hB⟩
 rintro i w1 ⟨hi, htk, hs, hk, hE, hB⟩
 refine c_seq (q0 (l_p 2 tK rfl ?_))
 refine lC (o_len tK hs rfl rfl rfl rfl rfl ?_)
 refine l_p 1 tK rfl (q1 ?_)
 refine c_ifP _ rfl (fun c2 => ?_) (fun c2 => ?_)
 ·refine c_skip (x_seq (c_seq (c_blk (c_seq ?_))))
  refine a_beg Ext rfl ?_
  intro w2 ew2
  replace hE := ew2.bl hE hB
  replace hs := hs.ext ew2
  replace hk := hk.ext ew2
  replace hB := ew2.z hB
  have hS : Ext w2 w2 := ext_refl _
  have D_hs := hs
  have D_hk := hk
  refine a_p 0 tK rfl rfl rfl rfl (by kernel_rfl) (fun _ _ _ h => h) hS ?_
  refine a_p 1 tK rfl rfl rfl rfl (by kernel_rfl) (fun _ _ _ h => h) hS ?_
  have hil : i < l.length := by omega
  have hik : i < k.length := by omega
  refine a_ixS 2 tK D_hs (List.getElem?_eq_getElem hil) rfl rfl rfl rfl rfl rfl rfl rfl rfl rfl (by kernel_rfl) (fun _ _ _ _ h => h) hS ?_
  intro ebz3 eoz3 euz3 hrz3 hatz3
  obtain ⟨rfl, _⟩ := hrz3
  refine a_ld 3 tK (fun _ hs => (hatz3.ext hs).cell 0 _ rfl) rfl rfl rfl rfl rfl rfl (by kernel_rfl) (fun _ _ _ h => h) hS ?_
  refine a_p 4 tK rfl rfl rfl rfl (by kernel_rfl) (fun _ _ _ h => h) hS ?_
  refine a_p 5 tK rfl rfl rfl rfl (by kernel_rfl) (fun _ _ _ h => h) hS ?_
  refine a_ixS 6 tK D_hk (List.getElem?_eq_getElem hik) rfl rfl rfl rfl rfl rfl rfl rfl rfl rfl (by kernel_rfl) (fun _ _ _ _ h => h) hS ?_
  intro ebz4 eoz4 euz4 hrz4 hatz4
  obtain ⟨rfl, _⟩ := hrz4
  refine a_ld 7 tK (fun _ hs => (hatz4.ext hs).cell 0 _ rfl) rfl rfl rfl rfl rfl rfl (by kernel_rfl) (fun _ _ _ h => h) hS ?_
  refine a_p 8 tK rfl rfl rfl rfl (by kernel_rfl) (fun _ _ _ h => h) hS ?_
  refine a_end (by kernel_rfl) ?_
  refine x_seq ?_
  refine c_ifN _ rfl (fun c5 => ?_) (fun c5 => ?_)
  ·refine q0 (l_p 1 tK rfl (q1 (c_ret (x_blkR (x_seqR (x_seqR (x_blkR (x_seqR (x_ret1 rfl rfl ?_)))))))))
   exact ⟨by rw [decide_eq_false (fun e : l = k => by subst e; exact absurd rfl (by assumption))], hE⟩
  refine c_skip (x_blk (x_seq (c_reg (l_p 1 tK rfl ?_))))
  refine lC (o_ai rfl rfl rfl (by omega) rfl rfl ?_)
  refine l_p 1 tK rfl (l_nil ?_)
  exact x_round (i + 1) (s3 rfl rfl (get_num rfl (by omega))) ⟨by omega, by
   have h5 : l[i] = k[i] := by assumption
   rw [List.take_succ_eq_append_getElem hil, List.take_succ_eq_append_getElem hik, htk, h5], hs, hk, hE, hB⟩ (by omega)
 refine c_exit (x_seqE (x_seqE (x_blkE (x_seq (q0 (l_p 1 tK rfl (q1 (c_ret (x_ret1 rfl rfl ?_)))))))))
 exact ⟨by rw [decide_eq_true (show l = k by rwa [List.take_of_length_le (by omega), List.take_of_length_le (by omega)] at htk)], hE⟩
def ty5 : Ty := .mk 0 ⟨#[]⟩ 0 []
def tm5F : Tm := .mk 32 ⟨#[102]⟩ ⟨#[]⟩ 0 false ty5 []
def tm5X : Tm := .mk 32 ⟨#[120]⟩ ⟨#[]⟩ 0 false ty5 []
def tm5A : Tm := .mk 37 ⟨#[]⟩ ⟨#[]⟩ 0 false ty5 [tm5F, tm5X]
def tm5L : Tm := .mk 35 ⟨#[]⟩ ⟨#[120]⟩ 0 false ty5 [tm5A]
theorem tm5F_right : rightT tm5F false = true := by rw [rightT_eq]; rfl
theorem tm5X_right : rightT tm5X false = true := by rw [rightT_eq]; rfl
theorem tm5A_right : rightT tm5A false = true := by
 have hF := tm5F_right
 have hX := tm5X_right
 rw [rightT_eq, show kidL tm5A.kids = [(32, rightT tm5F), (32, rightT tm5X)] from rfl]
 simp only [kidsT]
 rw [show innerB tm5A.op 0 = false from rfl, show innerB tm5A.op (0 + 1) = false from rfl, hF, hX]
 rfl
theorem tm5L_right : rightT tm5L false = true := by
 have hA := tm5A_right
 rw [rightT_eq, show kidL tm5L.kids = [(37, rightT tm5A)] from rfl]
 simp only [kidsT]
 rw [show innerB tm5L.op 0 = false from rfl, hA]
 rfl
theorem tm5_nodes : nodesL tm5L = [tm5L, tm5A, tm5F, tm5X] := by
 have hF : nodesL tm5F = [tm5F] := by rw [nodesL_eq]; rfl
 have hX : nodesL tm5X = [tm5X] := by rw [nodesL_eq]; rfl
 have hA : nodesL tm5A = [tm5A, tm5F, tm5X] := by rw [nodesL_eq, show tm5A.kids = [tm5F, tm5X] from rfl, List.flatMap_cons, List.flatMap_cons, List.flatMap_nil, hF, hX]; rfl
 rw [nodesL_eq, show tm5L.kids = [tm5A] from rfl, List.flatMap_cons, List.flatMap_nil, hA]; rfl
theorem ty5_psz : psz ty5 = 1 := by rw [psz_eq]; rfl
theorem tm5_ann : AnnS tm5L := by
 intro x hx
 rw [tm5_nodes] at hx
 have hz := ty5_psz
 simp at hx
 rcases hx with rfl | rfl | rfl | rfl
 all_goals (show psz ty5 ≤ _; omega)
theorem tm5_free : freeS tm5L = [⟨#[102]⟩] := by
 have h : ((downF tm5L ([], [])).2.map (·.1)) = [⟨#[102]⟩] := by
  rw [downF_eq, show tm5L.kids.map downF = [downF tm5A] from rfl, show downF tm5A = fun x => foldD [tm5F, tm5X] x from funext fun x => down_else (t := tm5A) (by decide) x]
  have hF : ∀ x, downF tm5F x = _ := fun x => down_var (t := tm5F) rfl x
  have hX : ∀ x, downF tm5X x = _ := fun x => down_var (t := tm5X) rfl x
  simp only [foldD, List.map_cons, List.map_nil, List.foldl_cons, List.foldl_nil, funext hF, funext hX]
  decide
 rw [freeS, h]
 simp [sortB, strT]
theorem free5 (M : Nat → Prop) (w : World) (v : Value) (ht : Rep.R M w v tm5L) (hlow : Low M w) :
  Calls Tryz.prog 18 #[v] w (Ret fun r w' => Sl M w' r ([⟨#[102]⟩] : List ByteArray) ∧ Ext w w') := by
 have h := free_spec tm5L M w v ht hlow tm5_ann (by unfold nsz; rw [tm5_nodes]; decide)
 rw [tm5L_right, cond_true, tm5_free] at h
 exact h
theorem alive5_spec (M : Nat → Prop) (w : World) (hlow : Low M w) :
  Calls Tryz.prog 6 #[] w (Ret fun r w' => r = .bool true ∧ Ext w w') := by
 have hE : Below w.heap.size w w := Below.refl _ _
 have hB : w.heap.size ≤ w.heap.size := Nat.le_refl _
 refine c_enter (n := 12) Tryz.func6 rfl rfl rfl ?_
 refine q0 (l_p 1 tK rfl (q1 (q0 ?_)))
 refine lC (o_build (cells := [.int .u8 32, .string ⟨#[102]⟩, .string ⟨#[]⟩, .int .i64 0, .bool false, .int .u8 0, .string ⟨#[]⟩, .int .i64 0, .slice none 0 0, .slice none 0 0]) (css := [[.int .u8 32], [.string ⟨#[102]⟩]]) bd28 rfl rfl rfl rfl rfl ?_)
 have hn0 : Rep.R M w (.agg #[.int .u8 32, .string ⟨#[102]⟩, .string ⟨#[]⟩, .int .i64 0, .bool false, .int .u8 0, .string ⟨#[]⟩, .int .i64 0, .slice none 0 0, .slice none 0 0]) tm5F := tm_mk (ann := ty5) (by decide) (by decide) (by decide) ⟨by decide, by decide⟩ (ty_mk (by decide) (by decide) ⟨by decide, by decide⟩ sl_nil) sl_nil
 refine lC (o_build (cells := [.int .u8 32, .string ⟨#[120]⟩, .string ⟨#[]⟩, .int .i64 0, .bool false, .int .u8 0, .string ⟨#[]⟩, .int .i64 0, .slice none 0 0, .slice none 0 0]) (css := [[.int .u8 32], [.string ⟨#[120]⟩]]) bd28 rfl rfl rfl rfl rfl ?_)
 have hn1 : Rep.R M w (.agg #[.int .u8 32, .string ⟨#[120]⟩, .string ⟨#[]⟩, .int .i64 0, .bool false, .int .u8 0, .string ⟨#[]⟩, .int .i64 0, .slice none 0 0, .slice none 0 0]) tm5X := tm_mk (ann := ty5) (by decide) (by decide) (by decide) ⟨by decide, by decide⟩ (ty_mk (by decide) (by decide) ⟨by decide, by decide⟩ sl_nil) sl_nil
 refine lC (o_bs tK rfl rfl rfl rfl rfl rfl rfl (by intro v hv; simp at hv; (repeat' (rcases hv with rfl | hv)); all_goals first | rfl | (subst hv; rfl)) rfl rfl rfl ?_)
 intro bl0 w1 qbl0 ew1 hbl0
 have nbl0 := nM_of hlow qbl0
 replace hE := ew1.bl hE hB
 replace hn0 := Rep.ext hn0 ew1
 replace hn1 := Rep.ext hn1 ew1
 replace hlow := hlow.ext ew1
 replace hB := ew1.z hB
 have hsl0 : Sl M w1 (.slice (some ⟨bl0, 0, none⟩) 2 2) [tm5F, tm5X] := lit_sl hbl0 nbl0 (show Rs _ _ [_, _] [tm5F, tm5X] from ⟨hn0, hn1, trivial⟩) (by decide)
 refine lC (o_build (cells := [.int .u8 37, .string ⟨#[]⟩, .string ⟨#[]⟩, .int .i64 0, .bool false, .int .u8 0, .string ⟨#[]⟩, .int .i64 0, .slice none 0 0, .slice (some ⟨bl0, 0, none⟩) 2 2]) (css := [[.int .u8 37], [.slice (some ⟨bl0, 0, none⟩) 2 2]]) bd28 rfl rfl rfl rfl rfl ?_)
 have hn2 : Rep.R M w1 (.agg #[.int .u8 37, .string ⟨#[]⟩, .string ⟨#[]⟩, .int .i64 0, .bool false, .int .u8 0, .string ⟨#[]⟩, .int .i64 0, .slice none 0 0, .slice (some ⟨bl0, 0, none⟩) 2 2]) tm5A := tm_mk (ann := ty5) (by decide) (by decide) (by decide) ⟨by decide, by decide⟩ (ty_mk (by decide) (by decide) ⟨by decide, by decide⟩ sl_nil) hsl0
 refine lC (o_new tK rfl rfl rfl ?_)
 intro bx w2 qbx ew2 hbx
 have nbx := nM_of hlow qbx
 refine lC (o_st tK hbx rfl rfl rfl rfl (Rep.one hn2) rfl rfl ?_)
 intro w3 hbx uw3 bew3
 have ew3 : Ext w1 w3 := ew2.trans (bew3 _ (Nat.le_of_eq qbx.symm))
 replace hE := ew3.bl hE hB
 replace hn0 := Rep.ext hn0 ew3
 replace hn1 := Rep.ext hn1 ew3
 replace hsl0 := hsl0.ext ew3
 replace hn2 := Rep.ext hn2 ew3
 replace hlow := hlow.ext ew3
 replace hB := ew3.z hB
 replace hbx : Box w3 bx 28 [.int .u8 37, .string ⟨#[]⟩, .string ⟨#[]⟩, .int .i64 0, .bool false, .int .u8 0, .string ⟨#[]⟩, .int .i64 0, .slice none 0 0, .slice (some ⟨bl0, 0, none⟩) 2 2] := hbx
 replace hbx := hbx.at nbx
 refine q1 (q0 ?_)
 refine lC (o_lds tK (fun j v hv => hbx.cell j v hv) rfl rfl rfl rfl rfl rfl ?_)
 refine lC (o_bs tK rfl rfl rfl rfl rfl rfl rfl (by intro v hv; simp at hv; (repeat' (rcases hv with rfl | hv)); all_goals first | rfl | (subst hv; rfl)) rfl rfl rfl ?_)
 intro bl1 w4 qbl1 ew4 hbl1
 have nbl1 := nM_of hlow qbl1
 replace hE := ew4.bl hE hB
 replace hn0 := Rep.ext hn0 ew4
 replace hn1 := Rep.ext hn1 ew4
 replace hsl0 := hsl0.ext ew4
 replace hn2 := Rep.ext hn2 ew4
 replace hbx := hbx.ext ew4
 replace hlow := hlow.ext ew4
 replace hB := ew4.z hB
 have hsl1 : Sl M w4 (.slice (some ⟨bl1, 0, none⟩) 1 1) [tm5A] := lit_sl hbl1 nbl1 (show Rs _ _ [_] [tm5A] from ⟨hn2, trivial⟩) (by decide)
 refine lC (o_build (cells := [.int .u8 35, .string ⟨#[]⟩, .string ⟨#[120]⟩, .int .i64 0, .bool false, .int .u8 0, .string ⟨#[]⟩, .int .i64 0, .slice none 0 0, .slice (some ⟨bl1, 0, none⟩) 1 1]) (css := [[.int .u8 35], [.string ⟨#[120]⟩], [.slice (some ⟨bl1, 0, none⟩) 1 1]]) bd28 rfl rfl rfl rfl rfl ?_)
 have hn3 : Rep.R M w4 (.agg #[.int .u8 35, .string ⟨#[]⟩, .string ⟨#[120]⟩, .int .i64 0, .bool false, .int .u8 0, .string ⟨#[]⟩, .int .i64 0, .slice none 0 0, .slice (some ⟨bl1, 0, none⟩) 1 1]) tm5L := tm_mk (ann := ty5) (by decide) (by decide) (by decide) ⟨by decide, by decide⟩ (ty_mk (by decide) (by decide) ⟨by decide, by decide⟩ sl_nil) hsl1
 refine lC (o_call fo18 rfl rfl rfl ((free5 _ _ _ hn3 hlow)) ?_)
 rintro vhx w5 ⟨hx, ew5⟩
 replace hE := ew5.bl hE hB
 replace hn0 := Rep.ext hn0 ew5
 replace hn1 := Rep.ext hn1 ew5
 replace hsl0 := hsl0.ext ew5
 replace hn2 := Rep.ext hn2 ew5
 replace hbx := hbx.ext ew5
 replace hsl1 := hsl1.ext ew5
 replace hn3 := Rep.ext hn3 ew5
 replace hlow := hlow.ext ew5
 replace hB := ew5.z hB
 refine lC (o_bs tK rfl rfl rfl rfl rfl rfl rfl (sz1 rfl) rfl rfl rfl ?_)
 intro bl2 w6 qbl2 ew6 hbl2
 have nbl2 := nM_of hlow qbl2
 replace hE := ew6.bl hE hB
 replace hn0 := Rep.ext hn0 ew6
 replace hn1 := Rep.ext hn1 ew6
 replace hsl0 := hsl0.ext ew6
 replace hn2 := Rep.ext hn2 ew6
 replace hbx := hbx.ext ew6
 replace hsl1 := hsl1.ext ew6
 replace hn3 := Rep.ext hn3 ew6
 replace hx := hx.ext ew6
 replace hlow := hlow.ext ew6
 replace hB := ew6.z hB
 have hsl2 : Sl M w6 (.slice (some ⟨bl2, 0, none⟩) 1 1) ([⟨#[102]⟩] : List ByteArray) := lit_sl hbl2 nbl2 (show Rs _ _ [_] ([⟨#[102]⟩] : List ByteArray) from ⟨⟨rfl, by decide⟩, trivial⟩) (by decide)
 refine lC (o_call fo21 rfl rfl rfl (texts_spec _ _ M _ _ _ hx hsl2) ?_)
 rintro _ w7 ⟨rfl, ew7⟩
 replace hE := ew7.bl hE hB
 replace hn0 := Rep.ext hn0 ew7
 replace hn1 := Rep.ext hn1 ew7
 replace hsl0 := hsl0.ext ew7
 replace hn2 := Rep.ext hn2 ew7
 replace hbx := hbx.ext ew7
 replace hsl1 := hsl1.ext ew7
 replace hn3 := Rep.ext hn3 ew7
 replace hx := hx.ext ew7
 replace hsl2 := hsl2.ext ew7
 replace hlow := hlow.ext ew7
 replace hB := ew7.z hB
 refine l_p 1 tK rfl (q1 (c_ret (x_ret1 rfl rfl ?_)))
 exact ⟨by rw [decide_eq_true rfl], hE⟩
end Go.Proofs.YtohfnpmehgpphaaGreat
namespace Rw
open Go Go.RowKit
/-- How deep an expression is. -/
def depT : Tm → Nat
  | .mk _ _ _ _ _ _ kids => (kids.map depT).foldl max 0 + 1
def depL (l : List Tm) : Nat := (l.map depT).foldl max 0
theorem depT_eq (t : Tm) : depT t = depL t.kids + 1 := by cases t; rw [depT]; rfl
theorem depL_step {l : List Tm} {i : Nat} (h : i < l.length) : depL (l.take (i + 1)) = max (depL (l.take i)) (depT l[i]) := by
  unfold depL
  rw [List.take_succ_eq_append_getElem h, List.map_append, List.foldl_append]; rfl
theorem dep_nsz (t : Tm) : depT t ≤ nsz t := by
  refine Tm.ind (p := fun t => depT t ≤ nsz t) (fun t ih => ?_) t
  rw [depT_eq, nsz_eq]
  have h : ∀ i ≤ t.kids.length, depL (t.kids.take i) ≤ nszs (t.kids.take i) := by
    intro i
    induction i with
    | zero => intro _; exact Nat.le_refl _
    | succ i ihi =>
      intro hi
      have h1 := ihi (by omega)
      have h2 := ih t.kids[i] (List.getElem_mem _)
      rw [depL_step (by omega), nszs_take (by omega)]
      omega
  have := h t.kids.length (Nat.le_refl _)
  rw [List.take_of_length_le (Nat.le_refl _)] at this
  omega
theorem depL_le (l : List Tm) : ∀ i, depL (l.take i) ≤ nszs l := by
  intro i
  have h : ∀ l : List Tm, depL l ≤ nszs l := by
    intro l
    have := dep_nsz (.mk 0 ⟨#[]⟩ ⟨#[]⟩ 0 false (.mk 0 ⟨#[]⟩ 0 []) l)
    rw [depT_eq, nsz_eq] at this
    exact Nat.le_of_succ_le_succ this
  exact Nat.le_trans (h _) (take_nsz l i)
def tz5 : Tm := .mk 0 ⟨#[]⟩ ⟨#[]⟩ 0 false (.mk 0 ⟨#[]⟩ 0 []) []
/-- The node of a number. -/
def nodeAt (t : Tm) (c : Nat) : Tm := ((nodesL t)[c]?).getD tz5
theorem nodeAt_zero (t : Tm) : nodeAt t 0 = t := by unfold nodeAt; rw [nodesL_eq]; rfl
theorem nodeAt_out {t : Tm} {c : Nat} (h : nsz t ≤ c) : nodeAt t c = tz5 := by
  unfold nodeAt
  rw [List.getElem?_eq_none (show (nodesL t).length ≤ c from h)]; rfl
theorem nodeAt_kid {t : Tm} {i c : Nat} (hi : i < t.kids.length) (h1 : nszs (t.kids.take i) < c) (h2 : c - nszs (t.kids.take i) - 1 < nsz t.kids[i]) : nodeAt t.kids[i] (c - nszs (t.kids.take i) - 1) = nodeAt t c := by
  unfold nodeAt
  congr 1
  have he : nodesL t = (t :: (t.kids.take i).flatMap nodesL) ++ (nodesL t.kids[i] ++ (t.kids.drop (i + 1)).flatMap nodesL) := by
    rw [nodesL_eq]
    conv => lhs; rw [show t.kids = t.kids.take i ++ t.kids[i] :: t.kids.drop (i + 1) by rw [← List.drop_eq_getElem_cons hi, List.take_append_drop]]
    rw [List.flatMap_append, List.flatMap_cons]
    rfl
  have hl : (t :: (t.kids.take i).flatMap nodesL).length = nszs (t.kids.take i) + 1 := rfl
  rw [he, List.getElem?_append_right (by omega), List.getElem?_append_left (by rw [hl]; show _ < nsz _; omega), hl]
  congr 1
theorem node_in (t : Tm) : ∀ x ∈ nodesL t, (∀ y ∈ nodesL x, y ∈ nodesL t) ∧ nsz x ≤ nsz t := by
  refine Tm.ind (p := fun t => ∀ x ∈ nodesL t, (∀ y ∈ nodesL x, y ∈ nodesL t) ∧ nsz x ≤ nsz t) (fun t ih => ?_) t
  intro x hx
  rw [nodesL_eq] at hx
  rcases List.mem_cons.1 hx with rfl | hx
  · exact ⟨fun y hy => hy, Nat.le_refl _⟩
  · obtain ⟨k, hk, hx⟩ := List.mem_flatMap.1 hx
    obtain ⟨h1, h2⟩ := ih k hk x hx
    exact ⟨fun y hy => by rw [nodesL_eq]; exact List.mem_cons_of_mem _ (List.mem_flatMap.2 ⟨k, hk, h1 y hy⟩), Nat.le_trans h2 (Nat.le_of_lt (kid_nsz hk))⟩
theorem nodeAt_small {t : Tm} (hz : AnnS t) (hn : nsz t ≤ 2000000) (k : Nat) : AnnS (nodeAt t k) ∧ nsz (nodeAt t k) ≤ 2000000 := by
  by_cases h : k < (nodesL t).length
  · have e : nodeAt t k = (nodesL t)[k] := by unfold nodeAt; rw [List.getElem?_eq_getElem h]; rfl
    obtain ⟨h1, h2⟩ := node_in t _ (List.getElem_mem h)
    rw [e]
    exact ⟨fun y hy => hz y (h1 y hy), Nat.le_trans h2 hn⟩
  · rw [nodeAt_out (Nat.le_of_not_lt h)]
    have e : nodesL tz5 = [tz5] := by rw [nodesL_eq]; rfl
    refine ⟨fun y hy => ?_, by unfold nsz; rw [e]; decide⟩
    rw [e, List.mem_singleton] at hy
    subst hy
    show psz (.mk 0 ⟨#[]⟩ 0 []) ≤ _
    rw [psz_eq]; decide
section
variable {P : Program} {T : Tab} {n : Nat} {ops : Array Oper} {Q : Exit → Act → World → Prop} {G : Env} {w : World} {K : Env → World → Prop}
  {d ty : Nat} {pos : String} {af : Array Edge} {g : Option (Nat × Bool)}
theorem o_max {x y : Operand} {a b : Int} {tys : Array TypeId} (hx : Env.ev G x = some (.int .i64 a)) (hy : Env.ev G y = some (.int .i64 b))
    (hg : gd ops G ⟨some d, .call ⟨.builtin .max, #[x, y], tys⟩, ty, pos, af, g⟩ = some true) (hdn : Nat.blt d n = true) (h : K ((d, .int .i64 (max a b)) :: G) w) :
    OW P n ops Q G w ⟨some d, .call ⟨.builtin .max, #[x, y], tys⟩, ty, pos, af, g⟩ K := by
  refine o_val hg rfl hdn (fun ac ha => ?_) h
  have he : (if b > a then b else a) = max a b := by omega
  simp [execOp, resolve, invoke, builtin, ha.ev hx, ha.ev hy, Builtin.max_, Builtin.max2, he]
end
end Rw
namespace Rw
open Go Go.RowKit
section
variable {e B : Nat} {M M' M0 : Nat → Prop} {w w' : World} {v : Value}
theorem Stp.drop (h : Stp B M M' w w') (hl : Low M w) : Stp B M M w w' := ⟨h.upd, fun _ _ h => h, fun _ h => h, fun b hb => Nat.lt_of_lt_of_le (hl b hb) h.upd.1, h.below⟩
end
end Rw
namespace Go.Proofs.YtohfnpmehgpphaaGreat
open Go Rw Go.RowKit
set_option maxRecDepth 100000
theorem count_spec : ∀ (t : Tm) (M : Nat → Prop) (w : World) (v : Value), Rep.R M w v t → Low M w → nsz t ≤ 2000000 → Calls Tryz.prog 11 #[v] w (Ret fun r w' => r = .int .i64 (nsz t : Nat) ∧ Ext w w') := by
  refine Tm.ind fun t ih => ?_
  intro M w v ht hlow hsz
  have hE : Below w.heap.size w w := Below.refl _ _
  have hB : w.heap.size ≤ w.heap.size := Nat.le_refl _
  obtain ⟨akv, kv, rfl, op, nm, ag, n64, ha, hk⟩ := tm_open ht
  have hps := nsz_eq t
  have hkl := len_nsz t.kids
  refine c_enter (n := 19) Tryz.func11 rfl rfl rfl ?_
  refine q0 ?_
  refine lC (o_box rfl rfl rfl ?_)
  intro b1 w1 hb_b1 ew1 h1
  replace h1 : Box _ b1 28 [.int .u8 t.op, .string t.name, .string t.arg, .int .i64 t.n, .bool t.has, .int .u8 t.ann.op, .string t.ann.name, .int .i64 t.ann.n, akv, kv] := h1
  replace h1 := h1.at (nM_of hlow hb_b1)
  replace hE := ew1.bl hE hB
  replace ht := Rep.ext ht ew1
  replace ha := Rep.ext ha ew1
  replace hk := hk.ext ew1
  replace hlow := hlow.ext ew1
  replace hB := ew1.z hB
  refine l_p 1 tK rfl (q1 (q0 (l_p 1 tK rfl (q1 (c_seq (q0 (l_p 1 tK rfl ?_)))))))
  refine lC (o_ld tK (h1.cell 9 _ rfl) rfl rfl rfl rfl rfl ?_)
  refine lC (o_len tK hk rfl rfl rfl rfl rfl ?_)
  refine l_p 1 tK rfl (q1 (c_blk ?_))
  refine c_loop (X := Nat) (fun i => [(3, .int .i64 ((nszs (t.kids.take i) + 1 : Nat) : Int)), (7, kv), (8, .int .i64 (t.kids.length : Int)), (9, .int .i64 (i : Nat))]) (fun i w' => i ≤ t.kids.length ∧ Sl M w' kv t.kids ∧ Low M w' ∧ Below w.heap.size w w' ∧ w.heap.size ≤ w'.heap.size) (fun i => t.kids.length - i) (0) (s4 rfl rfl rfl rfl) ?_ ?_
  · exact ⟨Nat.zero_le _, hk, hlow, hE, hB⟩
  clear ht ha h1 hk hlow hE hB
  rintro i w2 ⟨hi, hk, hlow, hE, hB⟩
  refine q0 (l_p 1 tK rfl (q1 (c_seq ?_)))
  refine c_ifP _ rfl (fun c1 => ?_) (fun c1 => ?_)
  · refine c_skip (x_seq (c_seq (c_blk (q0 ?_))))
    have hik : i < t.kids.length := by omega
    have hp1 := nsz_get hik
    have hp2 := take_nsz t.kids (i + 1)
    have hp3 := nszs_take hik
    refine lC (o_ixS tK hk (List.getElem?_eq_getElem hik) rfl rfl rfl rfl rfl rfl rfl rfl rfl ?_)
    intro ebx eox eux hyx hatx
    obtain ⟨akvx, kvx, rfl, opx, nmx, agx, n64x, hax, hkx⟩ := tm_open hyx
    replace hatx : At M w2 ebx eox [.int .u8 t.kids[i].op, .string t.kids[i].name, .string t.kids[i].arg, .int .i64 t.kids[i].n, .bool t.kids[i].has, .int .u8 t.kids[i].ann.op, .string t.kids[i].ann.name, .int .i64 t.kids[i].ann.n, akvx, kvx] := hatx
    refine lC (o_lds tK (fun j v hv => hatx.cell j v hv) rfl rfl rfl rfl rfl rfl ?_)
    refine lC (o_new tK rfl rfl rfl ?_)
    intro b5 w3 qb5 ew3 hb5
    have nb5 := nM_of hlow qb5
    refine lC (o_st tK hb5 rfl rfl rfl rfl (Rep.one hyx) rfl rfl ?_)
    intro w4 h5 uw4 bew4
    have ew4 : Ext w2 w4 := ew3.trans (bew4 _ (Nat.le_of_eq qb5.symm))
    replace hE := ew4.bl hE hB
    replace hk := hk.ext ew4
    replace hyx := Rep.ext hyx ew4
    replace hax := Rep.ext hax ew4
    replace hkx := hkx.ext ew4
    replace hatx := hatx.ext ew4
    replace hlow := hlow.ext ew4
    replace hB := ew4.z hB
    replace h5 : Box w4 b5 28 [.int .u8 t.kids[i].op, .string t.kids[i].name, .string t.kids[i].arg, .int .i64 t.kids[i].n, .bool t.kids[i].has, .int .u8 t.kids[i].ann.op, .string t.kids[i].ann.name, .int .i64 t.kids[i].ann.n, akvx, kvx] := h5
    replace h5 := h5.at nb5
    refine q1 (c_reg (l_p 1 tK rfl ?_))
    refine lC (o_lds tK (fun j v hv => h5.cell j v hv) rfl rfl rfl rfl rfl rfl ?_)
    refine lC (o_call fo11 rfl rfl rfl (ih _ (List.getElem_mem hik) M _ _ hyx hlow (by omega)) ?_)
    rintro _ w5 ⟨rfl, ew5⟩
    replace hE := ew5.bl hE hB
    replace hk := hk.ext ew5
    replace hyx := Rep.ext hyx ew5
    replace hax := Rep.ext hax ew5
    replace hkx := hkx.ext ew5
    replace hatx := hatx.ext ew5
    replace h5 := h5.ext ew5
    replace hlow := hlow.ext ew5
    replace hB := ew5.z hB
    refine lC (o_ai rfl rfl rfl (by omega) rfl rfl ?_)
    refine l_p 1 tK rfl (q2 (x_seq (c_reg ?_)))
    refine lC (o_ai rfl rfl rfl (by omega) rfl rfl ?_)
    refine l_p 1 tK rfl (l_nil ?_)
    exact x_round (i + 1) (s4 (get_num rfl (by rw [hp3]; omega)) rfl rfl (get_num rfl (by omega))) ⟨by omega, hk, hlow, hE, hB⟩ (by omega)
  refine c_exit (x_seqE (x_seqE (x_blkE (x_seq (q0 (l_p 2 tK rfl (q1 (c_ret (x_ret1 rfl rfl ?_)))))))))
  obtain rfl : i = t.kids.length := by omega
  refine ⟨?_, hE⟩
  rw [nsz_eq, List.take_of_length_le (Nat.le_refl _)]
theorem depth_spec : ∀ (t : Tm) (M : Nat → Prop) (w : World) (v : Value), Rep.R M w v t → Low M w → nsz t ≤ 2000000 → Calls Tryz.prog 12 #[v] w (Ret fun r w' => r = .int .i64 (depT t : Nat) ∧ Ext w w') := by
  refine Tm.ind fun t ih => ?_
  intro M w v ht hlow hsz
  have hE : Below w.heap.size w w := Below.refl _ _
  have hB : w.heap.size ≤ w.heap.size := Nat.le_refl _
  obtain ⟨akv, kv, rfl, op, nm, ag, n64, ha, hk⟩ := tm_open ht
  have hps := nsz_eq t
  have hkl := len_nsz t.kids
  refine c_enter (n := 20) Tryz.func12 rfl rfl rfl ?_
  refine q0 ?_
  refine lC (o_box rfl rfl rfl ?_)
  intro b1 w1 hb_b1 ew1 h1
  replace h1 : Box _ b1 28 [.int .u8 t.op, .string t.name, .string t.arg, .int .i64 t.n, .bool t.has, .int .u8 t.ann.op, .string t.ann.name, .int .i64 t.ann.n, akv, kv] := h1
  replace h1 := h1.at (nM_of hlow hb_b1)
  replace hE := ew1.bl hE hB
  replace ht := Rep.ext ht ew1
  replace ha := Rep.ext ha ew1
  replace hk := hk.ext ew1
  replace hlow := hlow.ext ew1
  replace hB := ew1.z hB
  refine l_p 1 tK rfl (q1 (q0 (l_p 1 tK rfl (q1 (c_seq (q0 (l_p 1 tK rfl ?_)))))))
  refine lC (o_ld tK (h1.cell 9 _ rfl) rfl rfl rfl rfl rfl ?_)
  refine lC (o_len tK hk rfl rfl rfl rfl rfl ?_)
  refine l_p 1 tK rfl (q1 (c_blk ?_))
  refine c_loop (X := Nat) (fun i => [(3, .int .i64 ((depL (t.kids.take i) : Nat) : Int)), (7, kv), (8, .int .i64 (t.kids.length : Int)), (9, .int .i64 (i : Nat))]) (fun i w' => i ≤ t.kids.length ∧ Sl M w' kv t.kids ∧ Low M w' ∧ Below w.heap.size w w' ∧ w.heap.size ≤ w'.heap.size) (fun i => t.kids.length - i) (0) (s4 rfl rfl rfl rfl) ?_ ?_
  · exact ⟨Nat.zero_le _, hk, hlow, hE, hB⟩
  clear ht ha h1 hk hlow hE hB
  rintro i w2 ⟨hi, hk, hlow, hE, hB⟩
  refine q0 (l_p 1 tK rfl (q1 (c_seq ?_)))
  refine c_ifP _ rfl (fun c1 => ?_) (fun c1 => ?_)
  · refine c_skip (x_seq (c_seq (c_blk (q0 ?_))))
    have hik : i < t.kids.length := by omega
    have hp1 := nsz_get hik
    have hp2 := take_nsz t.kids (i + 1)
    have hp3 := nszs_take hik
    have hp4 := dep_nsz t.kids[i]
    have hp5 := depL_le t.kids i
    refine lC (o_ixS tK hk (List.getElem?_eq_getElem hik) rfl rfl rfl rfl rfl rfl rfl rfl rfl ?_)
    intro ebx eox eux hyx hatx
    obtain ⟨akvx, kvx, rfl, opx, nmx, agx, n64x, hax, hkx⟩ := tm_open hyx
    replace hatx : At M w2 ebx eox [.int .u8 t.kids[i].op, .string t.kids[i].name, .string t.kids[i].arg, .int .i64 t.kids[i].n, .bool t.kids[i].has, .int .u8 t.kids[i].ann.op, .string t.kids[i].ann.name, .int .i64 t.kids[i].ann.n, akvx, kvx] := hatx
    refine lC (o_lds tK (fun j v hv => hatx.cell j v hv) rfl rfl rfl rfl rfl rfl ?_)
    refine lC (o_new tK rfl rfl rfl ?_)
    intro b5 w3 qb5 ew3 hb5
    have nb5 := nM_of hlow qb5
    refine lC (o_st tK hb5 rfl rfl rfl rfl (Rep.one hyx) rfl rfl ?_)
    intro w4 h5 uw4 bew4
    have ew4 : Ext w2 w4 := ew3.trans (bew4 _ (Nat.le_of_eq qb5.symm))
    replace hE := ew4.bl hE hB
    replace hk := hk.ext ew4
    replace hyx := Rep.ext hyx ew4
    replace hax := Rep.ext hax ew4
    replace hkx := hkx.ext ew4
    replace hatx := hatx.ext ew4
    replace hlow := hlow.ext ew4
    replace hB := ew4.z hB
    replace h5 : Box w4 b5 28 [.int .u8 t.kids[i].op, .string t.kids[i].name, .string t.kids[i].arg, .int .i64 t.kids[i].n, .bool t.kids[i].has, .int .u8 t.kids[i].ann.op, .string t.kids[i].ann.name, .int .i64 t.kids[i].ann.n, akvx, kvx] := h5
    replace h5 := h5.at nb5
    refine q1 (c_reg (l_p 1 tK rfl ?_))
    refine lC (o_lds tK (fun j v hv => h5.cell j v hv) rfl rfl rfl rfl rfl rfl ?_)
    refine lC (o_call fo12 rfl rfl rfl (ih _ (List.getElem_mem hik) M _ _ hyx hlow (by omega)) ?_)
    rintro _ w5 ⟨rfl, ew5⟩
    replace hE := ew5.bl hE hB
    replace hk := hk.ext ew5
    replace hyx := Rep.ext hyx ew5
    replace hax := Rep.ext hax ew5
    replace hkx := hkx.ext ew5
    replace hatx := hatx.ext ew5
    replace h5 := h5.ext ew5
    replace hlow := hlow.ext ew5
    replace hB := ew5.z hB
    refine lC (o_max rfl rfl rfl rfl ?_)
    refine l_p 1 tK rfl (q2 (x_seq (c_reg ?_)))
    refine lC (o_ai rfl rfl rfl (by omega) rfl rfl ?_)
    refine l_p 1 tK rfl (l_nil ?_)
    exact x_round (i + 1) (s4 (get_num rfl (by rw [depL_step hik]; omega)) rfl rfl (get_num rfl (by omega))) ⟨by omega, hk, hlow, hE, hB⟩ (by omega)
  refine c_exit (x_seqE (x_seqE (x_blkE (x_seq (q0 (l_p 1 tK rfl ?_))))))
  refine lC (o_ar rfl rfl rfl (IntWalk.i64_in _ (by have := depL_le t.kids i; have := take_nsz t.kids i; omega)) rfl rfl ?_)
  refine l_p 1 tK rfl (q1 (c_ret (x_ret1 rfl rfl ?_)))
  obtain rfl : i = t.kids.length := by omega
  refine ⟨?_, hE⟩
  rw [depT_eq, List.take_of_length_le (Nat.le_refl _)]
  congr 1 <;> omega
theorem depthR_spec : ∀ (t : Tm) (M : Nat → Prop) (w : World) (v : Value), Rep.R M w v t → Low M w → nsz t ≤ 2000000 → Calls Tryz.prog 13 #[v] w (Ret fun r w' => r = .int .i64 (depT t : Nat) ∧ Ext w w') := by
  refine Tm.ind fun t ih => ?_
  intro M w v ht hlow hsz
  have hE : Below w.heap.size w w := Below.refl _ _
  have hB : w.heap.size ≤ w.heap.size := Nat.le_refl _
  obtain ⟨akv, kv, rfl, op, nm, ag, n64, ha, hk⟩ := tm_open ht
  have hps := nsz_eq t
  have hkl := len_nsz t.kids
  refine c_enter (n := 22) Tryz.func13 rfl rfl rfl ?_
  refine q0 ?_
  refine lC (o_box rfl rfl rfl ?_)
  intro b1 w1 hb_b1 ew1 h1
  replace h1 : Box _ b1 28 [.int .u8 t.op, .string t.name, .string t.arg, .int .i64 t.n, .bool t.has, .int .u8 t.ann.op, .string t.ann.name, .int .i64 t.ann.n, akv, kv] := h1
  replace h1 := h1.at (nM_of hlow hb_b1)
  replace hE := ew1.bl hE hB
  replace ht := Rep.ext ht ew1
  replace ha := Rep.ext ha ew1
  replace hk := hk.ext ew1
  replace hlow := hlow.ext ew1
  replace hB := ew1.z hB
  refine l_p 1 tK rfl (q1 (q0 (l_p 1 tK rfl (q1 (c_seq (q0 (l_p 1 tK rfl (q1 (c_blk ?_)))))))))
  refine c_loop (X := Nat) (fun i => [(1, .pointer (some ⟨b1, 0, none⟩)), (3, .int .i64 ((depL (t.kids.take i) : Nat) : Int)), (4, .int .i64 (i : Nat))]) (fun i w' => i ≤ t.kids.length ∧ At M w' b1 0 [.int .u8 t.op, .string t.name, .string t.arg, .int .i64 t.n, .bool t.has, .int .u8 t.ann.op, .string t.ann.name, .int .i64 t.ann.n, akv, kv] ∧ Sl M w' kv t.kids ∧ Low M w' ∧ Below w.heap.size w w' ∧ w.heap.size ≤ w'.heap.size) (fun i => t.kids.length - i) (0) (s3 rfl rfl rfl) ?_ ?_
  · exact ⟨Nat.zero_le _, h1, hk, hlow, hE, hB⟩
  clear ht ha h1 hk hlow hE hB
  rintro i w2 ⟨hi, h1, hk, hlow, hE, hB⟩
  refine c_seq (q0 (l_p 2 tK rfl ?_))
  refine lC (o_ld tK (h1.cell 9 _ rfl) rfl rfl rfl rfl rfl ?_)
  refine lC (o_len tK hk rfl rfl rfl rfl rfl ?_)
  refine l_p 1 tK rfl (q1 ?_)
  refine c_ifP _ rfl (fun c1 => ?_) (fun c1 => ?_)
  · refine c_skip (x_seq (c_seq (c_blk (c_reg (l_p 2 tK rfl ?_)))))
    refine lC (o_ld tK (h1.cell 9 _ rfl) rfl rfl rfl rfl rfl ?_)
    refine l_p 1 tK rfl ?_
    have hik : i < t.kids.length := by omega
    have hp1 := nsz_get hik
    have hp2 := take_nsz t.kids (i + 1)
    have hp3 := nszs_take hik
    have hp4 := dep_nsz t.kids[i]
    have hp5 := depL_le t.kids i
    refine lC (o_ixS tK hk (List.getElem?_eq_getElem hik) rfl rfl rfl rfl rfl rfl rfl rfl rfl ?_)
    intro ebx eox eux hyx hatx
    obtain ⟨akvx, kvx, rfl, opx, nmx, agx, n64x, hax, hkx⟩ := tm_open hyx
    replace hatx : At M w2 ebx eox [.int .u8 t.kids[i].op, .string t.kids[i].name, .string t.kids[i].arg, .int .i64 t.kids[i].n, .bool t.kids[i].has, .int .u8 t.kids[i].ann.op, .string t.kids[i].ann.name, .int .i64 t.kids[i].ann.n, akvx, kvx] := hatx
    refine lC (o_lds tK (fun j v hv => hatx.cell j v hv) rfl rfl rfl rfl rfl rfl ?_)
    refine lC (o_call fo13 rfl rfl rfl (ih _ (List.getElem_mem hik) M _ _ hyx hlow (by omega)) ?_)
    rintro _ w3 ⟨rfl, ew3⟩
    replace hE := ew3.bl hE hB
    replace h1 := h1.ext ew3
    replace hk := hk.ext ew3
    replace hyx := Rep.ext hyx ew3
    replace hax := Rep.ext hax ew3
    replace hkx := hkx.ext ew3
    replace hatx := hatx.ext ew3
    replace hlow := hlow.ext ew3
    replace hB := ew3.z hB
    refine lC (o_max rfl rfl rfl rfl ?_)
    refine l_p 1 tK rfl (q2 (x_seq (c_reg (l_p 1 tK rfl ?_))))
    refine lC (o_ai rfl rfl rfl (by omega) rfl rfl ?_)
    refine l_p 1 tK rfl (l_nil ?_)
    exact x_round (i + 1) (s3 rfl (get_num rfl (by rw [depL_step hik]; omega)) (get_num rfl (by omega))) ⟨by omega, h1, hk, hlow, hE, hB⟩ (by omega)
  refine c_exit (x_seqE (x_seqE (x_blkE (x_seq (q0 (l_p 1 tK rfl ?_))))))
  refine lC (o_ar rfl rfl rfl (IntWalk.i64_in _ (by have := depL_le t.kids i; have := take_nsz t.kids i; omega)) rfl rfl ?_)
  refine l_p 1 tK rfl (q1 (c_ret (x_ret1 rfl rfl ?_)))
  obtain rfl : i = t.kids.length := by omega
  refine ⟨?_, hE⟩
  rw [depT_eq, List.take_of_length_le (Nat.le_refl _)]
  congr 1 <;> omega
theorem typed_own : ∀ (t : Ty) (M : Nat → Prop) (w : World) (v : Value), Rep.R M w v t → Low M w → psz t ≤ 2000000 → Calls Tryz.prog 54 #[v] w (Ret fun r w' => OTy 25 w.heap.size w' t r (Plus NoM w w') ∧ Ext w w') := by
  refine Ty.ind fun t ih => ?_
  intro M w v ht hlow0 hsz
  have hlow := hlow0
  have hB : w.heap.size ≤ w.heap.size := Nat.le_refl _
  have hE : Below w.heap.size w w := Below.refl _ _
  have hsub : ∀ b, M b → M b := fun _ h => h
  obtain ⟨kv, rfl, op, nm, n64, hk⟩ := ty_open ht
  have hps := psz_eq t
  have hkl := len_psz t.kids
  refine c_enter (n := 22) Tryz.func54 rfl rfl rfl ?_
  refine q0 ?_
  refine lC (o_box rfl rfl rfl ?_)
  intro b1 w1 qb1 ew1 hb1
  have sw1 := Stp.add ew1 hlow hB (Nat.le_of_eq qb1.symm) hb1.lt
  have h1 : MB w.heap.size (Rw.Add M b1) w1 b1 25 [.int .u8 t.op, .string t.name, .int .i64 t.n, kv] := MB.mk' hb1 qb1 hB
  replace hE := hE.trans sw1.below
  replace ht := Rep.stp ht sw1
  replace hk := hk.stp sw1
  replace hsub := sw1.sb hsub
  replace hlow := sw1.low
  replace hB := sw1.z hB
  refine lC (o_new tK rfl rfl rfl ?_)
  intro b2 w2 qb2 ew2 hb2
  have ne_h1_h2 : b1 ≠ b2 := by have := h1.lt; omega
  have sw2 := Stp.add ew2 hlow hB (Nat.le_of_eq qb2.symm) hb2.lt
  have h2 : MB w.heap.size (Rw.Add (Rw.Add M b1) b2) w2 b2 25 [.int .u8 0, .string ⟨#[]⟩, .int .i64 0, .slice none 0 0] := MB.mk' hb2 qb2 hB
  replace h1 := h1.stp sw2 (ew2.block b1 h1.lt)
  replace hE := hE.trans sw2.below
  replace ht := Rep.stp ht sw2
  replace hk := hk.stp sw2
  replace hsub := sw2.sb hsub
  replace hlow := sw2.low
  replace hB := sw2.z hB
  refine q1 (q0 (l_p 1 tK rfl (q1 (c_seq (q0 (l_p 1 tK rfl ?_))))))
  refine lC (o_ld tK (h1.cell 3 _ rfl) rfl rfl rfl rfl rfl ?_)
  refine lC (o_len tK hk rfl rfl rfl rfl rfl ?_)
  refine l_p 1 tK rfl (q1 (c_blk ?_))
  have d_ho_h1 : ∀ x, (.slice none 0 0 : Value).ownBlock = some x → x ≠ b1 := fun x hx => by simp [Value.ownBlock] at hx
  have d_ho_h2 : ∀ x, (.slice none 0 0 : Value).ownBlock = some x → x ≠ b2 := fun x hx => by simp [Value.ownBlock] at hx
  have d_hO_h1 : ∀ x, NoM x → x ≠ b1 := fun _ h => h.elim
  have d_hO_h2 : ∀ x, NoM x → x ≠ b2 := fun _ h => h.elim
  have dd_ho_hO : ∀ x y, (.slice none 0 0 : Value).ownBlock = some x → NoM y → x ≠ y := fun _ _ _ h => h.elim
  refine c_loop5 (X := Nat) (Y := Value) (Z := Nat → Prop) (U := List (VN 3)) (V := Nat → Prop) (fun i v M1 us F => [(1, .pointer (some ⟨b1, 0, none⟩)), (2, .pointer (some ⟨b2, 0, none⟩)), (3, v), (7, kv), (8, .int .i64 (t.kids.length : Int)), (9, .int .i64 (i : Nat))]) (fun i v M1 us F w' => i ≤ t.kids.length ∧ OwnSl 25 w.heap.size M1 w' v us ∧ OTs 25 w.heap.size w' us (t.kids.take i) F ∧ MB w.heap.size M1 w' b1 25 [.int .u8 t.op, .string t.name, .int .i64 t.n, kv] ∧ MB w.heap.size M1 w' b2 25 [.int .u8 0, .string ⟨#[]⟩, .int .i64 0, .slice none 0 0] ∧ (∀ x, (v : Value).ownBlock = some x → x ≠ b1) ∧ (∀ x, (v : Value).ownBlock = some x → x ≠ b2) ∧ (∀ x, F x → x ≠ b1) ∧ (∀ x, F x → x ≠ b2) ∧ (∀ x y, (v : Value).ownBlock = some x → F y → x ≠ y) ∧ Sl M1 w' kv t.kids ∧ Low M1 w' ∧ (∀ b, M b → M1 b) ∧ Below w.heap.size w w' ∧ w.heap.size ≤ w'.heap.size) (fun i v M1 us F => t.kids.length - i) (0) (.slice none 0 0) ((Rw.Add (Rw.Add M b1) b2)) ([]) (NoM) (s6 rfl rfl rfl rfl rfl rfl) ?_ ?_
  · exact ⟨Nat.zero_le _, own_nil, ots_nil (fun _ h => h.elim), h1, h2, d_ho_h1, d_ho_h2, d_hO_h1, d_hO_h2, dd_ho_hO, hk, hlow, hsub, hE, hB⟩
  rintro i v M1 us F w3 ⟨hi, ho, hO, h1, h2, d_ho_h1, d_ho_h2, d_hO_h1, d_hO_h2, dd_ho_hO, hk, hlow, hsub, hE, hB⟩
  have hul := hO.len
  rw [List.length_take] at hul
  refine q0 (l_p 1 tK rfl (q1 (c_seq ?_)))
  refine c_ifP _ rfl (fun c1 => ?_) (fun c1 => ?_)
  · refine c_skip (x_seq (c_seq (c_blk (q0 ?_))))
    have hik : i < t.kids.length := by omega
    have hp1 := psz_get hik
    refine lC (o_ixS tK hk (List.getElem?_eq_getElem hik) rfl rfl rfl rfl rfl rfl rfl rfl rfl ?_)
    intro ebx eox eux hyx hatx
    obtain ⟨kvx, rfl, opx, nmx, n64x, hkx⟩ := ty_open hyx
    replace hatx : At M1 w3 ebx eox [.int .u8 t.kids[i].op, .string t.kids[i].name, .int .i64 t.kids[i].n, kvx] := hatx
    refine lC (o_lds tK (fun j v hv => hatx.cell j v hv) rfl rfl rfl rfl rfl rfl ?_)
    refine lC (o_new tK rfl rfl rfl ?_)
    intro b5 w4 qb5 ew4 hb5
    have nb5 := nM_of hlow qb5
    refine lC (o_st tK hb5 rfl rfl rfl rfl (Rep.one hyx) rfl rfl ?_)
    intro w5 h5 uw5 bew5
    have ew5 : Ext w3 w5 := ew4.trans (bew5 _ (Nat.le_of_eq qb5.symm))
    replace ho := ho.ext hlow hB ew5
    replace hO := hO.ext hlow hB ew5
    replace h1 := h1.ext hlow hB ew5
    replace h2 := h2.ext hlow hB ew5
    replace hE := ew5.bl hE hB
    replace hk := hk.ext ew5
    replace hyx := Rep.ext hyx ew5
    replace hkx := hkx.ext ew5
    replace hatx := hatx.ext ew5
    replace hlow := hlow.ext ew5
    replace hB := ew5.z hB
    replace h5 : Box w5 b5 25 [.int .u8 t.kids[i].op, .string t.kids[i].name, .int .i64 t.kids[i].n, kvx] := h5
    replace h5 := h5.at nb5
    refine q1 (c_reg (l_p 1 tK rfl ?_))
    refine lC (o_lds tK (fun j v hv => h5.cell j v hv) rfl rfl rfl rfl rfl rfl ?_)
    have l_h1 := h1.lt
    have l_h2 := h2.lt
    have l_ho := ho.lt
    have l_hO := hO.lt
    have hB0 := hB
    refine lC (o_call fo54 rfl rfl rfl (ih _ (List.getElem_mem hik) _ _ _ hyx hlow (by omega)) ?_)
    rintro vr w6 ⟨hr, ew6⟩
    replace hr := hr.ge hB0
    have hGl : ∀ c, Plus NoM w5 w6 c → w5.heap.size ≤ c := fun c h => h.elim (fun h => h.elim) (fun h => h.1)
    replace ho := ho.ext hlow hB ew6
    replace hO := hO.ext hlow hB ew6
    replace h1 := h1.ext hlow hB ew6
    replace h2 := h2.ext hlow hB ew6
    replace hE := ew6.bl hE hB
    replace hk := hk.ext ew6
    replace hyx := Rep.ext hyx ew6
    replace hkx := hkx.ext ew6
    replace hatx := hatx.ext ew6
    replace h5 := h5.ext ew6
    replace hlow := hlow.ext ew6
    replace hB := ew6.z hB
    generalize Plus NoM w5 w6 = G at hr hGl
    have d_hr_h1 : ∀ x, G x → x ≠ b1 := fun x hx => by have := hGl x hx; omega
    have d_hr_h2 : ∀ x, G x → x ≠ b2 := fun x hx => by have := hGl x hx; omega
    have dd_ho_hr : ∀ x y, (v : Value).ownBlock = some x → G y → x ≠ y := fun x y hx hy => by have := hGl y hy; have := (l_ho x hx).2; omega
    have dd_hr_hO : ∀ c, G c → ¬ F c := fun c hg hf => by have := hGl c hg; have := (l_hO c hf).2; omega
    refine lC (o_bs tK rfl rfl rfl rfl rfl rfl rfl (sz1 hr.size) rfl rfl rfl ?_)
    intro bw7 w7 qbw7 ew7 hbw7
    have nbw7 := nM_of hlow qbw7
    replace ho := ho.ext hlow hB ew7
    replace hO := hO.ext hlow hB ew7
    replace h1 := h1.ext hlow hB ew7
    replace h2 := h2.ext hlow hB ew7
    replace hr := hr.ext hlow hB ew7
    replace hE := ew7.bl hE hB
    replace hk := hk.ext ew7
    replace hyx := Rep.ext hyx ew7
    replace hkx := hkx.ext ew7
    replace hatx := hatx.ext ew7
    replace h5 := h5.ext ew7
    replace hlow := hlow.ext ew7
    replace hB := ew7.z hB
    refine lC (o_app1 tK ho hbw7 nbw7 hr.vn hlow hB rfl rfl rfl rfl rfl rfl rfl (by omega) (by show (_ + _) * 56 ≤ _; omega) rfl rfl ?_)
    intro vw8 w8 Mw8 hw8 sw8 frw8 blw8
    have zd_ho_h1 := d_ho_h1
    replace d_ho_h1 : ∀ x, (vw8 : Value).ownBlock = some x → x ≠ b1 := fun x hx => (blw8 x hx).elim (d_ho_h1 x) (fun h e => by have := h1.lt; omega)
    have zd_ho_h2 := d_ho_h2
    replace d_ho_h2 : ∀ x, (vw8 : Value).ownBlock = some x → x ≠ b2 := fun x hx => (blw8 x hx).elim (d_ho_h2 x) (fun h e => by have := h2.lt; omega)
    have zdd_ho_hO := dd_ho_hO
    replace dd_ho_hO : ∀ x y, (vw8 : Value).ownBlock = some x → F y → x ≠ y := fun x y hx hy => (blw8 x hx).elim (fun h => dd_ho_hO x y h hy) (fun h e => by have := (hO.lt y hy).2; omega)
    have zdd_ho_hr := dd_ho_hr
    replace dd_ho_hr : ∀ x y, (vw8 : Value).ownBlock = some x → G y → x ≠ y := fun x y hx hy => (blw8 x hx).elim (fun h => dd_ho_hr x y h hy) (fun h e => by have := (hr.lt y hy).2; omega)
    replace hO := hO.stp sw8 (fun x hx => frw8 x (hO.lt x hx).2 (fun e => zdd_ho_hO x x e.symm hx rfl))
    replace h1 := h1.stp sw8 (frw8 b1 h1.lt (fun e => zd_ho_h1 _ e.symm rfl))
    replace h2 := h2.stp sw8 (frw8 b2 h2.lt (fun e => zd_ho_h2 _ e.symm rfl))
    replace hr := hr.stp sw8 (fun x hx => frw8 x (hr.lt x hx).2 (fun e => zdd_ho_hr x x e.symm hx rfl))
    replace hE := hE.trans sw8.below
    replace hk := hk.stp sw8
    replace hyx := Rep.stp hyx sw8
    replace hkx := hkx.stp sw8
    replace hatx := hatx.stp sw8
    replace h5 := h5.stp sw8
    replace hsub := sw8.sb hsub
    replace hlow := sw8.low
    replace hB := sw8.z hB
    replace ho := hw8
    clear hw8
    refine l_p 1 tK rfl (q2 (x_seq (c_reg ?_)))
    refine lC (o_ai rfl rfl rfl (by omega) rfl rfl ?_)
    refine l_p 1 tK rfl (l_nil ?_)
    have hO2 := hO.app hr dd_hr_hO
    exact x_round5 (i + 1) (vw8) (Mw8) (us ++ [⟨vr⟩]) (fun c => F c ∨ G c) (s6 rfl rfl rfl rfl rfl rfl) ⟨by omega, ho, by rw [List.take_succ_eq_append_getElem hik]; exact hO2, h1, h2, d_ho_h1, d_ho_h2, (fun x hx => hx.elim (d_hO_h1 x) (d_hr_h1 x)), (fun x hx => hx.elim (d_hO_h2 x) (d_hr_h2 x)), (fun x y hx hy => hy.elim (dd_ho_hO x y hx) (dd_ho_hr x y hx)), hk, hlow, hsub, hE, hB⟩ (by omega)
  refine c_exit (x_seqE (x_seqE (x_blkE (x_seq (q0 (l_p 2 tK rfl ?_))))))
  obtain rfl : i = t.kids.length := by omega
  rw [List.take_of_length_le (Nat.le_refl _)] at hO
  obtain ⟨av, cv, rfl, hcv⟩ := ho.val
  refine lC (o_st tK h1.box rfl rfl rfl rfl (by simp [Value.cells, Value.oneCell']) rfl rfl ?_)
  intro w9 hw9 qw9 bew9
  have uw9 : UpdB _ _ _ := ⟨qw9, bew9⟩
  have sw9 := uw9.stp h1.inM hlow h1.ge
  have frw9 := qw9.2
  replace ho := ho.stp sw9 (fun x hx => frw9 x (ho.lt x hx).2 (d_ho_h1 x hx))
  replace hO := hO.stp sw9 (fun x hx => frw9 x (hO.lt x hx).2 (d_hO_h1 x hx))
  replace h2 := h2.stp sw9 (frw9 b2 h2.lt ne_h1_h2.symm)
  replace hE := hE.trans sw9.below
  replace hk := hk.stp sw9
  replace hsub := sw9.sb hsub
  replace hlow := sw9.low
  replace hB := sw9.z hB
  replace h1 : MB w.heap.size _ w9 b1 _ [.int .u8 t.op, .string t.name, .int .i64 t.n, .slice av us.length cv] := ⟨hw9, h1.inM, h1.ge⟩
  refine q1 (q0 ?_)
  refine lC (o_lds tK (fun j v hv => h1.cell j v hv) rfl rfl rfl rfl rfl rfl ?_)
  refine lC (o_st tK h2.box rfl rfl rfl rfl (by intro u hu; simp [Value.cells] at hu; rcases hu with rfl | rfl | rfl | rfl <;> rfl) rfl rfl ?_)
  intro w10 hw10 qw10 bew10
  have uw10 : UpdB _ _ _ := ⟨qw10, bew10⟩
  have sw10 := uw10.stp h2.inM hlow h2.ge
  have frw10 := qw10.2
  replace ho := ho.stp sw10 (fun x hx => frw10 x (ho.lt x hx).2 (d_ho_h2 x hx))
  replace hO := hO.stp sw10 (fun x hx => frw10 x (hO.lt x hx).2 (d_hO_h2 x hx))
  replace h1 := h1.stp sw10 (frw10 b1 h1.lt ne_h1_h2)
  replace hE := hE.trans sw10.below
  replace hk := hk.stp sw10
  replace hsub := sw10.sb hsub
  replace hlow := sw10.low
  replace hB := sw10.z hB
  replace h2 : MB w.heap.size _ w10 b2 _ [.int .u8 t.op, .string t.name, .int .i64 t.n, .slice av us.length cv] := ⟨hw10, h2.inM, h2.ge⟩
  refine q1 (c_ret ?_)
  refine x_ret1s tK (fun j v hv => h2.cell j v hv) rfl rfl rfl rfl rfl ?_
  have hfin := oty_fin op nm n64 (by omega) ho hO dd_ho_hO
  rw [← ty_eta] at hfin
  exact ⟨hfin, hE⟩
theorem typed_rep (t : Ty) (M : Nat → Prop) (w : World) (v : Value) (ht : Rep.R M w v t) (hlow : Low M w) (hz : psz t ≤ 2000000) :
    Calls Tryz.prog 54 #[v] w (Ret fun r w' => Rep.R M w' r t ∧ Ext w w') := (typed_own t M w v ht hlow hz).mono (Ret.mono fun r w' h => ⟨h.1.repNew hlow, h.2⟩)
theorem copyM_spec : ∀ (t : Tm) (M : Nat → Prop) (w : World) (v : Value), Rep.R M w v t → Low M w → AnnS t → nsz t ≤ 2000000 → Calls Tryz.prog 30 #[v] w (Ret fun r w' => Rep.R M w' r t ∧ Ext w w') := by
  refine Tm.ind fun t ih => ?_
  intro M w v ht hlow0 hz hsz
  have hlow := hlow0
  have hB : w.heap.size ≤ w.heap.size := Nat.le_refl _
  have hE : Below w.heap.size w w := Below.refl _ _
  have hsub : ∀ b, M b → M b := fun _ h => h
  obtain ⟨akv, kv, rfl, op, nm, ag, n64, ha, hk⟩ := tm_open ht
  have hps := nsz_eq t
  have hkl := len_nsz t.kids
  have hzs := hz.self
  refine c_enter (n := 26) Tryz.func30 rfl rfl rfl ?_
  refine q0 ?_
  refine lC (o_box rfl rfl rfl ?_)
  intro b1 w1 qb1 ew1 hb1
  have sw1 := Stp.add ew1 hlow hB (Nat.le_of_eq qb1.symm) hb1.lt
  have h1 : MB w.heap.size (Rw.Add M b1) w1 b1 28 [.int .u8 t.op, .string t.name, .string t.arg, .int .i64 t.n, .bool t.has, .int .u8 t.ann.op, .string t.ann.name, .int .i64 t.ann.n, akv, kv] := MB.mk' hb1 qb1 hB
  replace hE := hE.trans sw1.below
  replace ht := Rep.stp ht sw1
  replace ha := Rep.stp ha sw1
  replace hk := hk.stp sw1
  replace hsub := sw1.sb hsub
  replace hlow := sw1.low
  replace hB := sw1.z hB
  refine lC (o_new tK rfl rfl rfl ?_)
  intro b2 w2 qb2 ew2 hb2
  have ne_h1_h2 : b1 ≠ b2 := by have := h1.lt; omega
  have sw2 := Stp.add ew2 hlow hB (Nat.le_of_eq qb2.symm) hb2.lt
  have h2 : MB w.heap.size (Rw.Add (Rw.Add M b1) b2) w2 b2 28 [.int .u8 0, .string ⟨#[]⟩, .string ⟨#[]⟩, .int .i64 0, .bool false, .int .u8 0, .string ⟨#[]⟩, .int .i64 0, .slice none 0 0, .slice none 0 0] := MB.mk' hb2 qb2 hB
  replace h1 := h1.stp sw2 (ew2.block b1 h1.lt)
  replace hE := hE.trans sw2.below
  replace ht := Rep.stp ht sw2
  replace ha := Rep.stp ha sw2
  replace hk := hk.stp sw2
  replace hsub := sw2.sb hsub
  replace hlow := sw2.low
  replace hB := sw2.z hB
  refine q1 (q0 (l_p 1 tK rfl (q1 (c_seq (q0 (l_p 1 tK rfl ?_))))))
  refine lC (o_ld tK (h1.cell 9 _ rfl) rfl rfl rfl rfl rfl ?_)
  refine lC (o_len tK hk rfl rfl rfl rfl rfl ?_)
  refine l_p 1 tK rfl (q1 (c_blk ?_))
  have d_ho_h1 : ∀ x, (.slice none 0 0 : Value).ownBlock = some x → x ≠ b1 := fun x hx => by simp [Value.ownBlock] at hx
  have d_ho_h2 : ∀ x, (.slice none 0 0 : Value).ownBlock = some x → x ≠ b2 := fun x hx => by simp [Value.ownBlock] at hx
  refine c_loop3 (X := Nat) (Y := Value) (Z := Nat → Prop) (fun i v M1 => [(1, .pointer (some ⟨b1, 0, none⟩)), (2, .pointer (some ⟨b2, 0, none⟩)), (3, v), (7, kv), (8, .int .i64 (t.kids.length : Int)), (9, .int .i64 (i : Nat))]) (fun i v M1 w' => i ≤ t.kids.length ∧ OwnSl 28 w.heap.size M1 w' v (t.kids.take i) ∧ MB w.heap.size M1 w' b1 28 [.int .u8 t.op, .string t.name, .string t.arg, .int .i64 t.n, .bool t.has, .int .u8 t.ann.op, .string t.ann.name, .int .i64 t.ann.n, akv, kv] ∧ MB w.heap.size M1 w' b2 28 [.int .u8 0, .string ⟨#[]⟩, .string ⟨#[]⟩, .int .i64 0, .bool false, .int .u8 0, .string ⟨#[]⟩, .int .i64 0, .slice none 0 0, .slice none 0 0] ∧ (∀ x, (v : Value).ownBlock = some x → x ≠ b1) ∧ (∀ x, (v : Value).ownBlock = some x → x ≠ b2) ∧ Rep.R M1 w' (.agg #[.int .u8 t.ann.op, .string t.ann.name, .int .i64 t.ann.n, akv]) t.ann ∧ Sl M1 w' kv t.kids ∧ Low M1 w' ∧ (∀ b, M b → M1 b) ∧ Below w.heap.size w w' ∧ w.heap.size ≤ w'.heap.size) (fun i v M1 => t.kids.length - i) (0) (.slice none 0 0) ((Rw.Add (Rw.Add M b1) b2)) (s6 rfl rfl rfl rfl rfl rfl) ?_ ?_
  · exact ⟨Nat.zero_le _, own_nil, h1, h2, d_ho_h1, d_ho_h2, ha, hk, hlow, hsub, hE, hB⟩
  clear ht ha hk h1 h2 hlow hsub hE hB d_ho_h1 d_ho_h2
  rintro i v M1 w3 ⟨hi, ho, h1, h2, d_ho_h1, d_ho_h2, ha, hk, hlow, hsub, hE, hB⟩
  refine q0 (l_p 1 tK rfl (q1 (c_seq ?_)))
  refine c_ifP _ rfl (fun c1 => ?_) (fun c1 => ?_)
  · refine c_skip (x_seq (c_seq (c_blk (q0 ?_))))
    have hik : i < t.kids.length := by omega
    have hp1 := nsz_get hik
    refine lC (o_ixS tK hk (List.getElem?_eq_getElem hik) rfl rfl rfl rfl rfl rfl rfl rfl rfl ?_)
    intro ebx eox eux hyx hatx
    obtain ⟨akvx, kvx, rfl, opx, nmx, agx, n64x, hax, hkx⟩ := tm_open hyx
    replace hatx : At M1 w3 ebx eox [.int .u8 t.kids[i].op, .string t.kids[i].name, .string t.kids[i].arg, .int .i64 t.kids[i].n, .bool t.kids[i].has, .int .u8 t.kids[i].ann.op, .string t.kids[i].ann.name, .int .i64 t.kids[i].ann.n, akvx, kvx] := hatx
    refine lC (o_lds tK (fun j v hv => hatx.cell j v hv) rfl rfl rfl rfl rfl rfl ?_)
    refine lC (o_new tK rfl rfl rfl ?_)
    intro b5 w4 qb5 ew4 hb5
    have nb5 := nM_of hlow qb5
    refine lC (o_st tK hb5 rfl rfl rfl rfl (Rep.one hyx) rfl rfl ?_)
    intro w5 h5 uw5 bew5
    have ew5 : Ext w3 w5 := ew4.trans (bew5 _ (Nat.le_of_eq qb5.symm))
    replace ho := ho.ext hlow hB ew5
    replace h1 := h1.ext hlow hB ew5
    replace h2 := h2.ext hlow hB ew5
    replace hE := ew5.bl hE hB
    replace ha := Rep.ext ha ew5
    replace hk := hk.ext ew5
    replace hyx := Rep.ext hyx ew5
    replace hax := Rep.ext hax ew5
    replace hkx := hkx.ext ew5
    replace hatx := hatx.ext ew5
    replace hlow := hlow.ext ew5
    replace hB := ew5.z hB
    replace h5 : Box w5 b5 28 [.int .u8 t.kids[i].op, .string t.kids[i].name, .string t.kids[i].arg, .int .i64 t.kids[i].n, .bool t.kids[i].has, .int .u8 t.kids[i].ann.op, .string t.kids[i].ann.name, .int .i64 t.kids[i].ann.n, akvx, kvx] := h5
    replace h5 := h5.at nb5
    refine q1 (c_reg (l_p 1 tK rfl ?_))
    refine lC (o_lds tK (fun j v hv => h5.cell j v hv) rfl rfl rfl rfl rfl rfl ?_)
    refine lC (o_call fo30 rfl rfl rfl (ih _ (List.getElem_mem hik) _ _ _ hyx hlow (hz.kid (List.getElem_mem hik)) (by omega)) ?_)
    rintro vhr w6 ⟨hr, ew6⟩
    replace ho := ho.ext hlow hB ew6
    replace h1 := h1.ext hlow hB ew6
    replace h2 := h2.ext hlow hB ew6
    replace hE := ew6.bl hE hB
    replace ha := Rep.ext ha ew6
    replace hk := hk.ext ew6
    replace hyx := Rep.ext hyx ew6
    replace hax := Rep.ext hax ew6
    replace hkx := hkx.ext ew6
    replace hatx := hatx.ext ew6
    replace h5 := h5.ext ew6
    replace hlow := hlow.ext ew6
    replace hB := ew6.z hB
    refine lC (o_bs tK rfl rfl rfl rfl rfl rfl rfl (sz1 (Rep.size hr)) rfl rfl rfl ?_)
    intro bw7 w7 qbw7 ew7 hbw7
    have nbw7 := nM_of hlow qbw7
    replace ho := ho.ext hlow hB ew7
    replace h1 := h1.ext hlow hB ew7
    replace h2 := h2.ext hlow hB ew7
    replace hE := ew7.bl hE hB
    replace ha := Rep.ext ha ew7
    replace hk := hk.ext ew7
    replace hyx := Rep.ext hyx ew7
    replace hax := Rep.ext hax ew7
    replace hkx := hkx.ext ew7
    replace hatx := hatx.ext ew7
    replace h5 := h5.ext ew7
    replace hr := Rep.ext hr ew7
    replace hlow := hlow.ext ew7
    replace hB := ew7.z hB
    refine lC (o_app1 tK ho hbw7 nbw7 hr hlow hB rfl rfl rfl rfl rfl rfl rfl (by rw [List.length_take]; omega) (by show (_ + _) * 136 ≤ _; rw [List.length_take]; omega) rfl rfl ?_)
    intro vw8 w8 Mw8 hw8 sw8 frw8 blw8
    have zd_ho_h1 := d_ho_h1
    replace d_ho_h1 : ∀ x, (vw8 : Value).ownBlock = some x → x ≠ b1 := fun x hx => (blw8 x hx).elim (d_ho_h1 x) (fun h e => by have := h1.lt; omega)
    have zd_ho_h2 := d_ho_h2
    replace d_ho_h2 : ∀ x, (vw8 : Value).ownBlock = some x → x ≠ b2 := fun x hx => (blw8 x hx).elim (d_ho_h2 x) (fun h e => by have := h2.lt; omega)
    replace h1 := h1.stp sw8 (frw8 b1 h1.lt (fun e => zd_ho_h1 _ e.symm rfl))
    replace h2 := h2.stp sw8 (frw8 b2 h2.lt (fun e => zd_ho_h2 _ e.symm rfl))
    replace hE := hE.trans sw8.below
    replace ha := Rep.stp ha sw8
    replace hk := hk.stp sw8
    replace hyx := Rep.stp hyx sw8
    replace hax := Rep.stp hax sw8
    replace hkx := hkx.stp sw8
    replace hatx := hatx.stp sw8
    replace h5 := h5.stp sw8
    replace hr := Rep.stp hr sw8
    replace hsub := sw8.sb hsub
    replace hlow := sw8.low
    replace hB := sw8.z hB
    replace ho := hw8
    clear hw8
    refine l_p 1 tK rfl (q2 (x_seq (c_reg ?_)))
    refine lC (o_ai rfl rfl rfl (by omega) rfl rfl ?_)
    refine l_p 1 tK rfl (l_nil ?_)
    exact x_round3 (i + 1) (vw8) (Mw8) (s6 rfl rfl rfl rfl rfl rfl) ⟨by omega, by rw [List.take_succ_eq_append_getElem hik]; exact ho, h1, h2, d_ho_h1, d_ho_h2, ha, hk, hlow, hsub, hE, hB⟩ (by omega)
  refine c_exit (x_seqE (x_seqE (x_blkE (x_seq (q0 (l_p 2 tK rfl ?_))))))
  refine lC (o_lds tK (fun j v hv => (h1.box).mid 5 (sub := [.int .u8 t.ann.op, .string t.ann.name, .int .i64 t.ann.n, akv]) rfl j v hv) rfl rfl rfl rfl rfl rfl ?_)
  refine lC (o_call fo54 rfl rfl rfl (typed_rep t.ann _ _ _ ha hlow hzs) ?_)
  rintro vhc w9 ⟨hc, ew9⟩
  replace ho := ho.ext hlow hB ew9
  replace h1 := h1.ext hlow hB ew9
  replace h2 := h2.ext hlow hB ew9
  replace hE := ew9.bl hE hB
  replace ha := Rep.ext ha ew9
  replace hk := hk.ext ew9
  replace hlow := hlow.ext ew9
  replace hB := ew9.z hB
  obtain ⟨kvc, rfl, opc, nmc, n64c, hkc⟩ := ty_open hc
  refine l_p 1 tK rfl ?_
  obtain rfl : i = t.kids.length := by omega
  rw [List.take_of_length_le (Nat.le_refl _)] at ho
  obtain ⟨av, cv, rfl, hcv⟩ := ho.val
  refine lC (o_st tK h1.box rfl rfl rfl rfl (by simp [Value.cells, Value.oneCell']) rfl rfl ?_)
  intro w10 hw10 qw10 bew10
  have uw10 : UpdB _ _ _ := ⟨qw10, bew10⟩
  have sw10 := uw10.stp h1.inM hlow h1.ge
  have frw10 := qw10.2
  replace ho := ho.stp sw10 (fun x hx => frw10 x (ho.lt x hx).2 (d_ho_h1 x hx))
  replace h2 := h2.stp sw10 (frw10 b2 h2.lt ne_h1_h2.symm)
  replace hE := hE.trans sw10.below
  replace ha := Rep.stp ha sw10
  replace hk := hk.stp sw10
  replace hc := Rep.stp hc sw10
  replace hsub := sw10.sb hsub
  replace hlow := sw10.low
  replace hB := sw10.z hB
  replace h1 : MB w.heap.size _ w10 b1 _ [.int .u8 t.op, .string t.name, .string t.arg, .int .i64 t.n, .bool t.has, .int .u8 t.ann.op, .string t.ann.name, .int .i64 t.ann.n, akv, (.slice av t.kids.length cv)] := ⟨hw10, h1.inM, h1.ge⟩
  refine l_p 1 tK rfl ?_
  refine lC (o_st tK h1.box rfl rfl rfl rfl (Rep.one hc) rfl rfl ?_)
  intro w11 hw11 qw11 bew11
  have uw11 : UpdB _ _ _ := ⟨qw11, bew11⟩
  have sw11 := uw11.stp h1.inM hlow h1.ge
  have frw11 := qw11.2
  replace ho := ho.stp sw11 (fun x hx => frw11 x (ho.lt x hx).2 (d_ho_h1 x hx))
  replace h2 := h2.stp sw11 (frw11 b2 h2.lt ne_h1_h2.symm)
  replace hE := hE.trans sw11.below
  replace ha := Rep.stp ha sw11
  replace hk := hk.stp sw11
  replace hc := Rep.stp hc sw11
  replace hsub := sw11.sb hsub
  replace hlow := sw11.low
  replace hB := sw11.z hB
  replace h1 : MB w.heap.size _ w11 b1 _ [.int .u8 t.op, .string t.name, .string t.arg, .int .i64 t.n, .bool t.has, .int .u8 t.ann.op, .string t.ann.name, .int .i64 t.ann.n, kvc, (.slice av t.kids.length cv)] := ⟨hw11, h1.inM, h1.ge⟩
  refine q1 (q0 ?_)
  refine lC (o_lds tK (fun j v hv => h1.cell j v hv) rfl rfl rfl rfl rfl rfl ?_)
  refine lC (o_st tK h2.box rfl rfl rfl rfl (by intro u hu; simp [Value.cells] at hu; have := Rep.one hc; simp [Value.cells] at this; rcases hu with rfl | rfl | rfl | rfl | rfl | rfl | rfl | rfl | rfl | rfl <;> first | rfl | exact this.2.2.2) rfl rfl ?_)
  intro w12 hw12 qw12 bew12
  have uw12 : UpdB _ _ _ := ⟨qw12, bew12⟩
  have sw12 := uw12.stp h2.inM hlow h2.ge
  have frw12 := qw12.2
  replace ho := ho.stp sw12 (fun x hx => frw12 x (ho.lt x hx).2 (d_ho_h2 x hx))
  replace h1 := h1.stp sw12 (frw12 b1 h1.lt ne_h1_h2)
  replace hE := hE.trans sw12.below
  replace ha := Rep.stp ha sw12
  replace hk := hk.stp sw12
  replace hc := Rep.stp hc sw12
  replace hsub := sw12.sb hsub
  replace hlow := sw12.low
  replace hB := sw12.z hB
  replace h2 : MB w.heap.size _ w12 b2 _ [.int .u8 t.op, .string t.name, .string t.arg, .int .i64 t.n, .bool t.has, .int .u8 t.ann.op, .string t.ann.name, .int .i64 t.ann.n, kvc, (.slice av t.kids.length cv)] := ⟨hw12, h2.inM, h2.ge⟩
  refine q1 (c_ret ?_)
  refine x_ret1s tK (fun j v hv => h2.cell j v hv) rfl rfl rfl rfl rfl ?_
  have hfin := tm_mk (has := t.has) op nm ag n64 (Rep.wk hc (fun b _ h => hsub b h)) (ho.sl (by omega) hlow0 hsub)
  rw [← tm_eta] at hfin
  exact ⟨hfin, hE⟩
theorem node_spec : ∀ (t : Tm) (c : Nat) (M : Nat → Prop) (w : World) (B nb : Nat) (v : Value), Rep.R M w v t → MB B M w nb 3 [.int .i64 (c : Int)] → Low M w → B ≤ w.heap.size → nsz t ≤ 2000000 → c < 9223372036854775808 → Calls Tryz.prog 29 #[v, .pointer (some ⟨nb, 0, none⟩)] w (Ret fun r w' => (∃ x, r = .tuple #[x, .bool (decide (c < nsz t))] ∧ Rep.R M w' x (nodeAt t c)) ∧ (∃ d : Int, MB B M w' nb 3 [.int .i64 d] ∧ (nsz t ≤ c → d = (c : Int) - nsz t + 1)) ∧ Stp B M M w w' ∧ Kept w w' (Out (fun x => x = nb) w)) := by
  refine Tm.ind fun t ih => ?_
  intro c M w B nb v ht hn hlow hB hsz hc9
  have hT : Stp B M M w w := Stp.refl hlow
  have hlow0 := hlow
  have hn0 := hn
  have hfr : Kept w w (Out (fun x => x = nb) w) := Kept.refl (fun x hx => hx.1)
  have d_hfr_hn : ∀ x, (Out (fun x => x = nb) w) x → x ≠ nb := fun x hx => hx.2
  obtain ⟨akv, kv, rfl, op, nm, ag, n64, ha, hk⟩ := tm_open ht
  have hps := nsz_eq t
  have hkl := len_nsz t.kids
  refine c_enter (n := 37) Tryz.func29 rfl rfl rfl ?_
  refine q0 ?_
  refine lC (o_box rfl rfl rfl ?_)
  intro b1 w1 hb_b1 ew1 h1
  replace h1 : Box _ b1 28 [.int .u8 t.op, .string t.name, .string t.arg, .int .i64 t.n, .bool t.has, .int .u8 t.ann.op, .string t.ann.name, .int .i64 t.ann.n, akv, kv] := h1
  replace h1 := h1.at (nM_of hlow hb_b1)
  replace hT := hT.then (Stp.ext ew1 hlow hB)
  replace hfr := hfr.ext hlow hB ew1
  replace hn := hn.ext hlow hB ew1
  replace ht := Rep.ext ht ew1
  replace ha := Rep.ext ha ew1
  replace hk := hk.ext ew1
  replace hlow := hlow.ext ew1
  replace hB := ew1.z hB
  refine lC (o_new tK rfl rfl rfl ?_)
  intro b4 w2 qb4 ew2 hb4
  have ne_hn_h4 : nb ≠ b4 := by have := hn.lt; omega
  have d_hfr_h4 : ∀ x, (Out (fun x => x = nb) w) x → x ≠ b4 := fun x hx => by have := (hfr.lt x hx).2; omega
  have sw2 := Stp.add ew2 hlow hB (Nat.le_of_eq qb4.symm) hb4.lt
  have h4 : MB B (Rw.Add M b4) w2 b4 28 [.int .u8 0, .string ⟨#[]⟩, .string ⟨#[]⟩, .int .i64 0, .bool false, .int .u8 0, .string ⟨#[]⟩, .int .i64 0, .slice none 0 0, .slice none 0 0] := MB.mk' hb4 qb4 hB
  replace hT := hT.then sw2
  replace hfr := hfr.stp sw2 (fun x hx => ew2.block x (hfr.lt x hx).2)
  replace hn := hn.stp sw2 (ew2.block nb hn.lt)
  replace ht := Rep.stp ht sw2
  replace ha := Rep.stp ha sw2
  replace hk := hk.stp sw2
  replace h1 := h1.stp sw2
  replace hlow := sw2.low
  replace hB := sw2.z hB
  refine l_p 1 tK rfl (q1 (c_seq (q0 (l_p 2 tK rfl ?_))))
  refine lC (o_ld tK (hn.cell 0 _ rfl) rfl rfl rfl rfl rfl ?_)
  refine l_p 1 tK rfl (q1 ?_)
  refine c_ifP _ rfl (fun c1 => ?_) (fun c1 => ?_)
  · refine q0 ?_
    refine lC (o_lds tK (fun j v hv => h1.cell j v hv) rfl rfl rfl rfl rfl rfl ?_)
    refine lC (o_st tK h4.box rfl rfl rfl rfl (Rep.one ht) rfl rfl ?_)
    intro w3 hw3 qw3 bew3
    have uw3 : UpdB _ _ _ := ⟨qw3, bew3⟩
    have sw3 := uw3.stp h4.inM hlow h4.ge
    have frw3 := qw3.2
    replace hT := hT.then sw3
    replace hfr := hfr.stp sw3 (fun x hx => frw3 x (hfr.lt x hx).2 (d_hfr_h4 x hx))
    replace hn := hn.stp sw3 (frw3 nb hn.lt ne_hn_h4)
    replace ht := Rep.stp ht sw3
    replace ha := Rep.stp ha sw3
    replace hk := hk.stp sw3
    replace h1 := h1.stp sw3
    replace hlow := sw3.low
    replace hB := sw3.z hB
    replace h4 : MB B _ w3 b4 _ [.int .u8 t.op, .string t.name, .string t.arg, .int .i64 t.n, .bool t.has, .int .u8 t.ann.op, .string t.ann.name, .int .i64 t.ann.n, akv, kv] := ⟨hw3, h4.inM, h4.ge⟩
    refine l_p 1 tK rfl (q1 (c_ret (x_seqR ?_)))
    refine x_ret2st tK (fun j v hv => h4.cell j v hv) rfl rfl rfl rfl rfl rfl ?_
    obtain rfl : c = 0 := by omega
    have hdd : nsz t ≤ 0 → ((0 : Nat) : Int) = ((0 : Nat) : Int) - nsz t + 1 := fun h => by have := nsz_pos t; omega
    rw [show decide (0 < nsz t) = true from decide_eq_true (nsz_pos t), nodeAt_zero]
    have hres := Rep.wk ht (fun b _ h => hT.sub b h)
    exact ⟨⟨_, rfl, hres⟩, ⟨_, ⟨hn.box, hn0.inM, hn0.ge⟩, hdd⟩, hT.drop hlow0, hfr⟩
  refine c_skip (x_seq (c_seq (q0 (l_p 1 tK rfl ?_))))
  refine lC (o_ld tK (h1.cell 9 _ rfl) rfl rfl rfl rfl rfl ?_)
  refine lC (o_len tK hk rfl rfl rfl rfl rfl ?_)
  refine l_p 1 tK rfl (q1 (c_blk ?_))
  refine c_loop (X := Nat) (fun i => [(1, .pointer (some ⟨nb, 0, none⟩)), (4, .pointer (some ⟨b4, 0, none⟩)), (16, kv), (17, .int .i64 (t.kids.length : Int)), (18, .int .i64 (i : Nat))]) (fun i w' => i ≤ t.kids.length ∧ nszs (t.kids.take i) < c ∧ MB B (Rw.Add M b4) w' nb 3 [.int .i64 ((c - nszs (t.kids.take i) : Nat) : Int)] ∧ MB B (Rw.Add M b4) w' b4 28 [.int .u8 0, .string ⟨#[]⟩, .string ⟨#[]⟩, .int .i64 0, .bool false, .int .u8 0, .string ⟨#[]⟩, .int .i64 0, .slice none 0 0, .slice none 0 0] ∧ Stp B M (Rw.Add M b4) w w' ∧ Kept w w' (Out (fun x => x = nb) w) ∧ Low (Rw.Add M b4) w' ∧ B ≤ w'.heap.size ∧ Sl (Rw.Add M b4) w' kv t.kids) (fun i => t.kids.length - i) (0) (s5 rfl rfl rfl rfl rfl) ?_ ?_
  · exact ⟨Nat.zero_le _, (by rw [List.take_zero, nszs_nil]; omega), hn, h4, hT, hfr, hlow, hB, hk⟩
  clear ht ha h1 hn h4 hT hfr hlow hB hk
  rintro i w4 ⟨hi, hic, hn, h4, hT, hfr, hlow, hB, hk⟩
  refine q0 (l_p 1 tK rfl (q1 (c_seq ?_)))
  refine c_ifP _ rfl (fun c2 => ?_) (fun c2 => ?_)
  · refine c_skip (x_seq (c_seq (c_blk (q0 ?_))))
    have hik : i < t.kids.length := by omega
    have hp1 := nsz_get hik
    have hp2 := take_nsz t.kids (i + 1)
    have hp3 := nszs_take hik
    refine lC (o_ixS tK hk (List.getElem?_eq_getElem hik) rfl rfl rfl rfl rfl rfl rfl rfl rfl ?_)
    intro ebx eox eux hyx hatx
    obtain ⟨akvx, kvx, rfl, opx, nmx, agx, n64x, hax, hkx⟩ := tm_open hyx
    replace hatx : At (Rw.Add M b4) w4 ebx eox [.int .u8 t.kids[i].op, .string t.kids[i].name, .string t.kids[i].arg, .int .i64 t.kids[i].n, .bool t.kids[i].has, .int .u8 t.kids[i].ann.op, .string t.kids[i].ann.name, .int .i64 t.kids[i].ann.n, akvx, kvx] := hatx
    refine lC (o_lds tK (fun j v hv => hatx.cell j v hv) rfl rfl rfl rfl rfl rfl ?_)
    refine lC (o_new tK rfl rfl rfl ?_)
    intro b7 w5 qb7 ew5 hb7
    have nb7 := nM_of hlow qb7
    refine lC (o_st tK hb7 rfl rfl rfl rfl (Rep.one hyx) rfl rfl ?_)
    intro w6 h7 uw6 bew6
    have ew6 : Ext w4 w6 := ew5.trans (bew6 _ (Nat.le_of_eq qb7.symm))
    replace hT := hT.then (Stp.ext ew6 hlow hB)
    replace hfr := hfr.ext hlow hB ew6
    replace hn := hn.ext hlow hB ew6
    replace h4 := h4.ext hlow hB ew6
    replace hk := hk.ext ew6
    replace hyx := Rep.ext hyx ew6
    replace hax := Rep.ext hax ew6
    replace hkx := hkx.ext ew6
    replace hatx := hatx.ext ew6
    replace hlow := hlow.ext ew6
    replace hB := ew6.z hB
    replace h7 : Box w6 b7 28 [.int .u8 t.kids[i].op, .string t.kids[i].name, .string t.kids[i].arg, .int .i64 t.kids[i].n, .bool t.kids[i].has, .int .u8 t.kids[i].ann.op, .string t.kids[i].ann.name, .int .i64 t.kids[i].ann.n, akvx, kvx] := h7
    replace h7 := h7.at nb7
    refine q1 (q0 (l_p 2 tK rfl ?_))
    refine lC (o_ld tK (hn.cell 0 _ rfl) rfl rfl rfl rfl rfl ?_)
    refine lC (o_ar rfl rfl rfl (z := (((c - nszs (t.kids.take i) - 1) : Nat) : Int)) (by rw [IntWalk.i64_in _ (by omega)]; omega) rfl rfl ?_)
    refine l_p 1 tK rfl ?_
    refine lC (o_st tK hn.box rfl rfl rfl rfl (by intro u hu; simp [Value.cells] at hu; subst hu; rfl) rfl rfl ?_)
    intro w7 hw7 qw7 bew7
    have uw7 : UpdB _ _ _ := ⟨qw7, bew7⟩
    have sw7 := uw7.stp hn.inM hlow hn.ge
    have frw7 := qw7.2
    replace hT := hT.then sw7
    replace hfr := hfr.stp sw7 (fun x hx => frw7 x (hfr.lt x hx).2 (d_hfr_hn x hx))
    replace h4 := h4.stp sw7 (frw7 b4 h4.lt ne_hn_h4.symm)
    replace hk := hk.stp sw7
    replace hyx := Rep.stp hyx sw7
    replace hax := Rep.stp hax sw7
    replace hkx := hkx.stp sw7
    replace hatx := hatx.stp sw7
    replace h7 := h7.stp sw7
    replace hlow := sw7.low
    replace hB := sw7.z hB
    replace hn : MB B _ w7 nb _ [.int .i64 (((c - nszs (t.kids.take i) - 1) : Nat) : Int)] := ⟨hw7, hn.inM, hn.ge⟩
    refine q1 (q0 ?_)
    refine lC (o_lds tK (fun j v hv => h7.cell j v hv) rfl rfl rfl rfl rfl rfl ?_)
    refine l_p 1 tK rfl ?_
    refine lC (o_call fo29 rfl rfl rfl (ih _ (List.getElem_mem hik) (c - nszs (t.kids.take i) - 1) _ _ B nb _ hyx hn hlow hB (by omega) (by omega)) ?_)
    rintro _ w8 ⟨⟨xv, rfl, hx8⟩, ⟨dn, hnw8, hd⟩, sw8, kw8⟩
    have frw8 : ∀ x, x < w7.heap.size → x ≠ nb → w8.heap[x]? = w7.heap[x]? := fun x hx hn => kw8.blk x ⟨hx, hn⟩
    replace hT := hT.then sw8
    replace hfr := hfr.stp sw8 (fun x hx => frw8 x (hfr.lt x hx).2 (d_hfr_hn x hx))
    replace h4 := h4.stp sw8 (frw8 b4 h4.lt ne_hn_h4.symm)
    replace hk := hk.stp sw8
    replace hyx := Rep.stp hyx sw8
    replace hax := Rep.stp hax sw8
    replace hkx := hkx.stp sw8
    replace hatx := hatx.stp sw8
    replace h7 := h7.stp sw8
    replace hlow := sw8.low
    replace hB := sw8.z hB
    replace hn := hnw8
    clear hnw8
    obtain ⟨akvq, kvq, rfl, opq, nmq, agq, n64q, haq, hkq⟩ := tm_open hx8
    refine l_p 3 tK rfl ?_
    refine lC (o_new tK rfl rfl rfl ?_)
    intro b8 w9 qb8 ew9 hb8
    have nb8 := nM_of hlow qb8
    refine lC (o_st tK hb8 rfl rfl rfl rfl (Rep.one hx8) rfl rfl ?_)
    intro w10 h8 uw10 bew10
    have ew10 : Ext w8 w10 := ew9.trans (bew10 _ (Nat.le_of_eq qb8.symm))
    replace hT := hT.then (Stp.ext ew10 hlow hB)
    replace hfr := hfr.ext hlow hB ew10
    replace hn := hn.ext hlow hB ew10
    replace h4 := h4.ext hlow hB ew10
    replace hk := hk.ext ew10
    replace hyx := Rep.ext hyx ew10
    replace hax := Rep.ext hax ew10
    replace hkx := hkx.ext ew10
    replace hatx := hatx.ext ew10
    replace h7 := h7.ext ew10
    replace hx8 := Rep.ext hx8 ew10
    replace haq := Rep.ext haq ew10
    replace hkq := hkq.ext ew10
    replace hlow := hlow.ext ew10
    replace hB := ew10.z hB
    replace h8 : Box w10 b8 28 [.int .u8 (nodeAt t.kids[i] (c - nszs (t.kids.take i) - 1)).op, .string (nodeAt t.kids[i] (c - nszs (t.kids.take i) - 1)).name, .string (nodeAt t.kids[i] (c - nszs (t.kids.take i) - 1)).arg, .int .i64 (nodeAt t.kids[i] (c - nszs (t.kids.take i) - 1)).n, .bool (nodeAt t.kids[i] (c - nszs (t.kids.take i) - 1)).has, .int .u8 (nodeAt t.kids[i] (c - nszs (t.kids.take i) - 1)).ann.op, .string (nodeAt t.kids[i] (c - nszs (t.kids.take i) - 1)).ann.name, .int .i64 (nodeAt t.kids[i] (c - nszs (t.kids.take i) - 1)).ann.n, akvq, kvq] := h8
    replace h8 := h8.at nb8
    refine l_p 1 tK rfl (q1 (q0 (l_p 1 tK rfl (q1 ?_))))
    refine c_ifP _ rfl (fun c3 => ?_) (fun c3 => ?_)
    · refine q0 ?_
      refine lC (o_lds tK (fun j v hv => h8.cell j v hv) rfl rfl rfl rfl rfl rfl ?_)
      refine lC (o_st tK h4.box rfl rfl rfl rfl (Rep.one hx8) rfl rfl ?_)
      intro w11 hw11 qw11 bew11
      have uw11 : UpdB _ _ _ := ⟨qw11, bew11⟩
      have sw11 := uw11.stp h4.inM hlow h4.ge
      have frw11 := qw11.2
      replace hT := hT.then sw11
      replace hfr := hfr.stp sw11 (fun x hx => frw11 x (hfr.lt x hx).2 (d_hfr_h4 x hx))
      replace hn := hn.stp sw11 (frw11 nb hn.lt ne_hn_h4)
      replace hk := hk.stp sw11
      replace hyx := Rep.stp hyx sw11
      replace hax := Rep.stp hax sw11
      replace hkx := hkx.stp sw11
      replace hatx := hatx.stp sw11
      replace h7 := h7.stp sw11
      replace hx8 := Rep.stp hx8 sw11
      replace haq := Rep.stp haq sw11
      replace hkq := hkq.stp sw11
      replace h8 := h8.stp sw11
      replace hlow := sw11.low
      replace hB := sw11.z hB
      replace h4 : MB B _ w11 b4 _ [.int .u8 (nodeAt t.kids[i] (c - nszs (t.kids.take i) - 1)).op, .string (nodeAt t.kids[i] (c - nszs (t.kids.take i) - 1)).name, .string (nodeAt t.kids[i] (c - nszs (t.kids.take i) - 1)).arg, .int .i64 (nodeAt t.kids[i] (c - nszs (t.kids.take i) - 1)).n, .bool (nodeAt t.kids[i] (c - nszs (t.kids.take i) - 1)).has, .int .u8 (nodeAt t.kids[i] (c - nszs (t.kids.take i) - 1)).ann.op, .string (nodeAt t.kids[i] (c - nszs (t.kids.take i) - 1)).ann.name, .int .i64 (nodeAt t.kids[i] (c - nszs (t.kids.take i) - 1)).ann.n, akvq, kvq] := ⟨hw11, h4.inM, h4.ge⟩
      refine l_p 1 tK rfl (q1 (c_ret (x_blkR (x_seqR (x_seqR (x_blkR (x_seqR ?_)))))))
      refine x_ret2st tK (fun j v hv => h4.cell j v hv) rfl rfl rfl rfl rfl rfl ?_
      have hlt9 : (c - nszs (t.kids.take i) - 1) < nsz t.kids[i] := by assumption
      have hdd : nsz t ≤ c → dn = (c : Int) - nsz t + 1 := fun h => by omega
      rw [show decide (c < nsz t) = true from decide_eq_true (by omega), ← nodeAt_kid hik hic hlt9]
      have hres := Rep.wk hx8 (fun b _ h => hT.sub b h)
      exact ⟨⟨_, rfl, hres⟩, ⟨_, ⟨hn.box, hn0.inM, hn0.ge⟩, hdd⟩, hT.drop hlow0, hfr⟩
    refine c_skip (x_blk (x_seq (c_reg ?_)))
    refine lC (o_ai rfl rfl rfl (by omega) rfl rfl ?_)
    refine l_p 1 tK rfl (l_nil ?_)
    exact x_round (i + 1) (s5 rfl rfl rfl rfl (get_num rfl (by omega))) ⟨by omega, by omega, by rw [show ((c - nszs (t.kids.take (i + 1)) : Nat) : Int) = dn by rw [hp3]; omega]; exact hn, h4, hT, hfr, hlow, hB, hk⟩ (by omega)
  refine c_exit (x_seqE (x_seqE (x_blkE (x_seq (q0 ?_)))))
  refine lC (o_build (cells := [.int .u8 0, .string ⟨#[]⟩, .string ⟨#[]⟩, .int .i64 0, .bool false, .int .u8 0, .string ⟨#[]⟩, .int .i64 0, .slice none 0 0, .slice none 0 0]) (css := []) bd28 rfl rfl rfl rfl rfl ?_)
  refine lC (o_st tK h4.box rfl rfl rfl rfl (by intro u hu; simp [Value.cells] at hu; rcases hu with rfl | rfl | rfl | rfl | rfl | rfl | rfl | rfl | rfl | rfl <;> rfl) rfl rfl ?_)
  intro w12 hw12 qw12 bew12
  have uw12 : UpdB _ _ _ := ⟨qw12, bew12⟩
  have sw12 := uw12.stp h4.inM hlow h4.ge
  have frw12 := qw12.2
  replace hT := hT.then sw12
  replace hfr := hfr.stp sw12 (fun x hx => frw12 x (hfr.lt x hx).2 (d_hfr_h4 x hx))
  replace hn := hn.stp sw12 (frw12 nb hn.lt ne_hn_h4)
  replace hk := hk.stp sw12
  replace hlow := sw12.low
  replace hB := sw12.z hB
  replace h4 : MB B _ w12 b4 _ [.int .u8 0, .string ⟨#[]⟩, .string ⟨#[]⟩, .int .i64 0, .bool false, .int .u8 0, .string ⟨#[]⟩, .int .i64 0, .slice none 0 0, .slice none 0 0] := ⟨hw12, h4.inM, h4.ge⟩
  refine l_p 1 tK rfl (q1 (c_ret ?_))
  refine x_ret2st tK (fun j v hv => h4.cell j v hv) rfl rfl rfl rfl rfl rfl ?_
  obtain rfl : i = t.kids.length := by omega
  rw [List.take_of_length_le (Nat.le_refl _)] at hn hic
  have hdd : nsz t ≤ c → ((c - nszs t.kids : Nat) : Int) = (c : Int) - nsz t + 1 := fun _ => by omega
  rw [show decide (c < nsz t) = false from decide_eq_false (by omega), nodeAt_out (show nsz t ≤ c by omega)]
  have hres : Rep.R M w12 (.agg #[.int .u8 0, .string ⟨#[]⟩, .string ⟨#[]⟩, .int .i64 0, .bool false, .int .u8 0, .string ⟨#[]⟩, .int .i64 0, .slice none 0 0, .slice none 0 0]) tz5 := tm_mk (ann := .mk 0 ⟨#[]⟩ 0 []) (by decide) (by decide) (by decide) ⟨by decide, by decide⟩ (ty_mk (by decide) (by decide) ⟨by decide, by decide⟩ sl_nil) sl_nil
  exact ⟨⟨_, rfl, hres⟩, ⟨_, ⟨hn.box, hn0.inM, hn0.ge⟩, hdd⟩, hT.drop hlow0, hfr⟩
theorem nodeM_spec (t : Tm) (c : Int) (M : Nat → Prop) (w : World) (v : Value) (ht : Rep.R M w v t) (hlow0 : Low M w) (hz : AnnS t) (hsz : nsz t ≤ 2000000) (hc9 : c < 9223372036854775808) :
    Calls Tryz.prog 14 #[v, .int .i64 c] w (Ret fun r w' => (∃ x, r = .tuple #[x, .bool (decide (0 ≤ c ∧ c < nsz t))] ∧ Rep.R M w' x (if 0 ≤ c then nodeAt t c.toNat else tz5)) ∧ Ext w w') := by
  have hlow := hlow0
  have hB : w.heap.size ≤ w.heap.size := Nat.le_refl _
  have hE : Below w.heap.size w w := Below.refl _ _
  have hsub : ∀ b, M b → M b := fun _ h => h
  obtain ⟨akv, kv, rfl, op, nm, ag, n64, ha, hk⟩ := tm_open ht
  refine c_enter (n := 19) Tryz.func14 rfl rfl rfl ?_
  refine q0 ?_
  refine lC (o_box rfl rfl rfl ?_)
  intro b2 w1 hb_b2 ew1 h2
  replace h2 : Box _ b2 28 [.int .u8 t.op, .string t.name, .string t.arg, .int .i64 t.n, .bool t.has, .int .u8 t.ann.op, .string t.ann.name, .int .i64 t.ann.n, akv, kv] := h2
  replace h2 := h2.at (nM_of hlow hb_b2)
  replace hE := ew1.bl hE hB
  replace ht := Rep.ext ht ew1
  replace ha := Rep.ext ha ew1
  replace hk := hk.ext ew1
  replace hlow := hlow.ext ew1
  replace hB := ew1.z hB
  refine lC (o_box rfl rfl rfl ?_)
  intro b3 w2 qb3 ew2 hb3
  have sw2 := Stp.add ew2 hlow hB (Nat.le_of_eq qb3.symm) hb3.lt
  have h3 : MB w.heap.size (Rw.Add M b3) w2 b3 3 [.int .i64 c] := MB.mk' hb3 qb3 hB
  replace hE := hE.trans sw2.below
  replace ht := Rep.stp ht sw2
  replace ha := Rep.stp ha sw2
  replace hk := hk.stp sw2
  replace h2 := h2.stp sw2
  replace hsub := sw2.sb hsub
  replace hlow := sw2.low
  replace hB := sw2.z hB
  refine lC (o_new tK rfl rfl rfl ?_)
  intro b4 w3 qb4 ew3 hb4
  have ne_h3_h4 : b3 ≠ b4 := by have := h3.lt; omega
  have sw3 := Stp.add ew3 hlow hB (Nat.le_of_eq qb4.symm) hb4.lt
  have h4 : MB w.heap.size (Rw.Add (Rw.Add M b3) b4) w3 b4 28 [.int .u8 0, .string ⟨#[]⟩, .string ⟨#[]⟩, .int .i64 0, .bool false, .int .u8 0, .string ⟨#[]⟩, .int .i64 0, .slice none 0 0, .slice none 0 0] := MB.mk' hb4 qb4 hB
  replace h3 := h3.stp sw3 (ew3.block b3 h3.lt)
  replace hE := hE.trans sw3.below
  replace ht := Rep.stp ht sw3
  replace ha := Rep.stp ha sw3
  replace hk := hk.stp sw3
  replace h2 := h2.stp sw3
  replace hsub := sw3.sb hsub
  replace hlow := sw3.low
  replace hB := sw3.z hB
  refine l_p 1 tK rfl (q1 (c_seq (q0 ?_)))
  refine lC (o_ld tK (h3.cell 0 _ rfl) rfl rfl rfl rfl rfl ?_)
  refine l_p 1 tK rfl (q1 ?_)
  refine c_ifP _ rfl (fun c1 => ?_) (fun c1 => ?_)
  · refine q0 ?_
    refine lC (o_build (cells := [.int .u8 0, .string ⟨#[]⟩, .string ⟨#[]⟩, .int .i64 0, .bool false, .int .u8 0, .string ⟨#[]⟩, .int .i64 0, .slice none 0 0, .slice none 0 0]) (css := []) bd28 rfl rfl rfl rfl rfl ?_)
    refine lC (o_st tK h4.box rfl rfl rfl rfl (by intro u hu; simp [Value.cells] at hu; rcases hu with rfl | rfl | rfl | rfl | rfl | rfl | rfl | rfl | rfl | rfl <;> rfl) rfl rfl ?_)
    intro w4 hw4 qw4 bew4
    have uw4 : UpdB _ _ _ := ⟨qw4, bew4⟩
    have sw4 := uw4.stp h4.inM hlow h4.ge
    have frw4 := qw4.2
    replace h3 := h3.stp sw4 (frw4 b3 h3.lt ne_h3_h4)
    replace hE := hE.trans sw4.below
    replace ht := Rep.stp ht sw4
    replace ha := Rep.stp ha sw4
    replace hk := hk.stp sw4
    replace h2 := h2.stp sw4
    replace hsub := sw4.sb hsub
    replace hlow := sw4.low
    replace hB := sw4.z hB
    replace h4 : MB w.heap.size _ w4 b4 _ [.int .u8 0, .string ⟨#[]⟩, .string ⟨#[]⟩, .int .i64 0, .bool false, .int .u8 0, .string ⟨#[]⟩, .int .i64 0, .slice none 0 0, .slice none 0 0] := ⟨hw4, h4.inM, h4.ge⟩
    refine l_p 1 tK rfl (q1 (c_ret (x_seqR ?_)))
    refine x_ret2st tK (fun j v hv => h4.cell j v hv) rfl rfl rfl rfl rfl rfl ?_
    rw [show decide (0 ≤ c ∧ c < (nsz t : Int)) = false from decide_eq_false (by omega), if_neg (by omega)]
    exact ⟨⟨_, rfl, tm_mk (ann := .mk 0 ⟨#[]⟩ 0 []) (by decide) (by decide) (by decide) ⟨by decide, by decide⟩ (ty_mk (by decide) (by decide) ⟨by decide, by decide⟩ sl_nil) sl_nil⟩, hE⟩
  refine c_skip (x_seq (q0 ?_))
  refine lC (o_lds tK (fun j v hv => h2.cell j v hv) rfl rfl rfl rfl rfl rfl ?_)
  obtain ⟨k, rfl⟩ : ∃ k : Nat, c = (k : Int) := ⟨c.toNat, by omega⟩
  refine lC (o_call fo29 rfl rfl rfl (node_spec t k (Rw.Add (Rw.Add M b3) b4) _ w.heap.size b3 _ ht h3 hlow hB hsz (by omega)) ?_)
  rintro _ w5 ⟨⟨xv, rfl, hx8⟩, ⟨dn, h3w5, hd⟩, sw5, kw5⟩
  have frw5 : ∀ x, x < w3.heap.size → x ≠ b3 → w5.heap[x]? = w3.heap[x]? := fun x hx hn => kw5.blk x ⟨hx, hn⟩
  replace h4 := h4.stp sw5 (frw5 b4 h4.lt ne_h3_h4.symm)
  replace hE := hE.trans sw5.below
  replace ht := Rep.stp ht sw5
  replace ha := Rep.stp ha sw5
  replace hk := hk.stp sw5
  replace h2 := h2.stp sw5
  replace hsub := sw5.sb hsub
  replace hlow := sw5.low
  replace hB := sw5.z hB
  replace h3 := h3w5
  clear h3w5
  obtain ⟨akvq, kvq, rfl, opq, nmq, agq, n64q, haq, hkq⟩ := tm_open hx8
  refine l_p 3 tK rfl ?_
  refine lC (o_new tK rfl rfl rfl ?_)
  intro b6 w6 qb6 ew6 hb6
  have nb6 := nM_of hlow qb6
  refine lC (o_st tK hb6 rfl rfl rfl rfl (Rep.one hx8) rfl rfl ?_)
  intro w7 h6 uw7 bew7
  have ew7 : Ext w5 w7 := ew6.trans (bew7 _ (Nat.le_of_eq qb6.symm))
  replace h3 := h3.ext hlow hB ew7
  replace h4 := h4.ext hlow hB ew7
  replace hE := ew7.bl hE hB
  replace ht := Rep.ext ht ew7
  replace ha := Rep.ext ha ew7
  replace hk := hk.ext ew7
  replace h2 := h2.ext ew7
  replace hx8 := Rep.ext hx8 ew7
  replace haq := Rep.ext haq ew7
  replace hkq := hkq.ext ew7
  replace hlow := hlow.ext ew7
  replace hB := ew7.z hB
  replace h6 : Box w7 b6 28 [.int .u8 (nodeAt t k).op, .string (nodeAt t k).name, .string (nodeAt t k).arg, .int .i64 (nodeAt t k).n, .bool (nodeAt t k).has, .int .u8 (nodeAt t k).ann.op, .string (nodeAt t k).ann.name, .int .i64 (nodeAt t k).ann.n, akvq, kvq] := h6
  replace h6 := h6.at nb6
  refine l_p 1 tK rfl (q1 (q0 ?_))
  refine lC (o_lds tK (fun j v hv => h6.cell j v hv) rfl rfl rfl rfl rfl rfl ?_)
  obtain ⟨hza, hzn⟩ := nodeAt_small hz hsz k
  refine lC (o_call fo30 rfl rfl rfl (copyM_spec _ _ _ _ hx8 hlow hza hzn) ?_)
  rintro vhr w8 ⟨hr, ew8⟩
  replace h3 := h3.ext hlow hB ew8
  replace h4 := h4.ext hlow hB ew8
  replace hE := ew8.bl hE hB
  replace ht := Rep.ext ht ew8
  replace ha := Rep.ext ha ew8
  replace hk := hk.ext ew8
  replace h2 := h2.ext ew8
  replace hx8 := Rep.ext hx8 ew8
  replace haq := Rep.ext haq ew8
  replace hkq := hkq.ext ew8
  replace h6 := h6.ext ew8
  replace hlow := hlow.ext ew8
  replace hB := ew8.z hB
  obtain ⟨akvr, kvr, rfl, opr, nmr, agr, n64r, har, hkr⟩ := tm_open hr
  refine l_p 1 tK rfl ?_
  refine lC (o_st tK h4.box rfl rfl rfl rfl (Rep.one hr) rfl rfl ?_)
  intro w9 hw9 qw9 bew9
  have uw9 : UpdB _ _ _ := ⟨qw9, bew9⟩
  have sw9 := uw9.stp h4.inM hlow h4.ge
  have frw9 := qw9.2
  replace h3 := h3.stp sw9 (frw9 b3 h3.lt ne_h3_h4)
  replace hE := hE.trans sw9.below
  replace ht := Rep.stp ht sw9
  replace ha := Rep.stp ha sw9
  replace hk := hk.stp sw9
  replace h2 := h2.stp sw9
  replace hx8 := Rep.stp hx8 sw9
  replace haq := Rep.stp haq sw9
  replace hkq := hkq.stp sw9
  replace h6 := h6.stp sw9
  replace hr := Rep.stp hr sw9
  replace har := Rep.stp har sw9
  replace hkr := hkr.stp sw9
  replace hsub := sw9.sb hsub
  replace hlow := sw9.low
  replace hB := sw9.z hB
  replace h4 : MB w.heap.size _ w9 b4 _ [.int .u8 (nodeAt t k).op, .string (nodeAt t k).name, .string (nodeAt t k).arg, .int .i64 (nodeAt t k).n, .bool (nodeAt t k).has, .int .u8 (nodeAt t k).ann.op, .string (nodeAt t k).ann.name, .int .i64 (nodeAt t k).ann.n, akvr, kvr] := ⟨hw9, h4.inM, h4.ge⟩
  refine l_p 1 tK rfl (q1 (c_ret ?_))
  refine x_ret2st tK (fun j v hv => h4.cell j v hv) rfl rfl rfl rfl rfl rfl ?_
  rw [show decide (0 ≤ (k : Int) ∧ (k : Int) < (nsz t : Int)) = decide (k < nsz t) by rw [decide_eq_decide]; omega, if_pos (by omega), Int.toNat_natCast]
  exact ⟨⟨_, rfl, Rep.wk hr (fun b _ h => hsub b h)⟩, hE⟩
end Go.Proofs.YtohfnpmehgpphaaGreat
