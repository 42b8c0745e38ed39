/- Part 5 of the proof: rules, plain laws and walks, merged out of smaller texts. -/
import Derived.Test.YtohfnpmehgpphaaGreatC4
namespace Go.Proofs.YtohfnpmehgpphaaGreat
open Go Rw Go.RowKit
set_option maxRecDepth 100000
/-- What down does of an expression. -/
def DownC (t : Tm) : Prop := ∀ (K : Nat) (x : BF) (M : Nat → Prop) (w : World) (B : Nat) (v : Value) (np bm fm : Nat) (b : Bool), rightT t b = true → Rep.R M w v t → At M w np 0 [.map (some bm), .map (some fm)] → OM (κ := ByteArray) (fun x : Int => Value.int .i64 x) B M w bm x.1 → OM (κ := ByteArray) (fun x : Bool => Value.bool x) B M w fm x.2 → bm ≠ fm → Low M w → B ≤ w.heap.size → (∀ s, 0 ≤ bnd x.1 s ∧ bnd x.1 s ≤ K) → K + 2 * nsz t ≤ 1000000000 →
  Calls Tryz.prog 34 #[.pointer (some ⟨np, 0, none⟩), v] w (Ret fun r w' => r = .tuple #[] ∧ OM (κ := ByteArray) (fun x : Int => Value.int .i64 x) B M w' bm (downF t x).1 ∧ OM (κ := ByteArray) (fun x : Bool => Value.bool x) B M w' fm (downF t x).2 ∧ Stp B M M w w' ∧ Kept w w' (Out (fun z => z = bm ∨ z = fm) w))
theorem within_of (t : Tm) (hd : DownC t) (l : List ByteArray) (K : Nat) (x : BF) (M : Nat → Prop) (w : World) (B : Nat) (v vl : Value) (np bm fm : Nat) (b : Bool) (hr : rightT t b = true) (ht : Rep.R M w v t) (hs : Sl M w vl l) : At M w np 0 [.map (some bm), .map (some fm)] → OM (κ := ByteArray) (fun x : Int => Value.int .i64 x) B M w bm x.1 → OM (κ := ByteArray) (fun x : Bool => Value.bool x) B M w fm x.2 → bm ≠ fm → Low M w → B ≤ w.heap.size → (∀ s, 0 ≤ bnd x.1 s ∧ bnd x.1 s ≤ K) → l.length ≤ 2 → K + 2 + 2 * nsz t ≤ 1000000000 →
  Calls Tryz.prog 59 #[.pointer (some ⟨np, 0, none⟩), v, vl] w (Ret fun r w' => r = .tuple #[] ∧ OM (κ := ByteArray) (fun x : Int => Value.int .i64 x) B M w' bm (withF (downF t) l x).1 ∧ OM (κ := ByteArray) (fun x : Bool => Value.bool x) B M w' fm (withF (downF t) l x).2 ∧ Stp B M M w w' ∧ Kept w w' (Out (fun z => z = bm ∨ z = fm) w)) := by
 intro hn hm hf hne hlow hB hbx hll hK
 have hT : Stp B M M w w := Stp.refl hlow
 have hfr : Kept w w (Out (fun z => z = bm ∨ z = fm) w) := Kept.refl (fun x hx => hx.1)
 have d_hfr_hm : ∀ x, (Out (fun z => z = bm ∨ z = fm) w) x → x ≠ bm := fun x hx e => hx.2 (.inl e)
 have d_hfr_hf : ∀ x, (Out (fun z => z = bm ∨ z = fm) w) x → x ≠ fm := fun x hx e => hx.2 (.inr e)
 have ne_hm_hf := hne
 obtain ⟨akv, kv, rfl, op, nm, ag, n64, ha, hk⟩ := tm_open ht
 refine c_enter (n := 41) Tryz.func59 rfl rfl rfl ?_
 refine q0 ?_
 refine lC (o_box rfl rfl rfl ?_)
 intro b4 w1 hb_b4 ew1 h4
 replace h4 : Box _ b4 28 [.int .u8 t.op, .string t.name, .string t.arg, .int .i64 t.n, .bool t.has, .int .u8 t.ann.op, .string t.ann.name, .int .i64 t.ann.n, akv, kv] := h4
 replace h4 := h4.at (nM_of hlow hb_b4)
 replace hT := hT.then (Stp.ext ew1 hlow hB)
 replace hfr := hfr.ext hlow hB ew1
 replace hm := hm.ext hlow hB ew1
 replace hf := hf.ext hlow hB ew1
 replace hn := hn.ext ew1
 replace ht := Rep.ext ht ew1
 replace ha := Rep.ext ha ew1
 replace hk := hk.ext ew1
 replace hs := hs.ext ew1
 replace hlow := hlow.ext ew1
 replace hB := ew1.z hB
 refine q1 (c_seq (q0 (l_p 1 tK rfl ?_)))
 refine lC (o_len tK hs rfl rfl rfl rfl rfl ?_)
 refine l_p 1 tK rfl (q1 (c_blk ?_))
 refine c_loop (X := Nat) (fun i => [(0, .pointer (some ⟨np, 0, none⟩)), (2, vl), (10, vl), (11, .int .i64 (l.length : Int)), (12, .int .i64 (i : Nat)), (4, .pointer (some ⟨b4, 0, none⟩))]) (fun i w' => i ≤ l.length ∧ OM (κ := ByteArray) (fun x : Int => Value.int .i64 x) B M w' bm (incs x.1 (l.take i) (1)) ∧ OM (κ := ByteArray) (fun x : Bool => Value.bool x) B M w' fm (x.2) ∧ At M w' np 0 [.map (some bm), .map (some fm)] ∧ Stp B M M w w' ∧ Kept w w' (Out (fun z => z = bm ∨ z = fm) w) ∧ Low M w' ∧ B ≤ w'.heap.size ∧ At M w' b4 0 [.int .u8 t.op, .string t.name, .string t.arg, .int .i64 t.n, .bool t.has, .int .u8 t.ann.op, .string t.ann.name, .int .i64 t.ann.n, akv, kv] ∧ Rep.R M w' (.agg #[.int .u8 t.op, .string t.name, .string t.arg, .int .i64 t.n, .bool t.has, .int .u8 t.ann.op, .string t.ann.name, .int .i64 t.ann.n, akv, kv]) t ∧ Rep.R M w' (.agg #[.int .u8 t.ann.op, .string t.ann.name, .int .i64 t.ann.n, akv]) t.ann ∧ Sl M w' kv t.kids ∧ Sl M w' vl l) (fun i => l.length - i) (0) (s6 rfl rfl rfl rfl rfl rfl) ?_ ?_
 ·exact ⟨Nat.zero_le _, hm, hf, hn, hT, hfr, hlow, hB, h4, ht, ha, hk, hs⟩
 clear hm hf hn hT hfr hlow hB h4 ht ha hk hs
 rintro i w2 ⟨hi, hm, hf, hn, hT, hfr, hlow, hB, h4, ht, ha, hk, hs⟩
 refine q0 (l_p 1 tK rfl (q1 (c_seq ?_)))
 refine c_ifP _ rfl (fun c1 => ?_) (fun c1 => ?_)
 ·refine c_skip (x_seq (c_seq (c_blk (q0 ?_))))
  have hil : i < l.length := by omega
  refine lC (o_ixS tK hs (List.getElem?_eq_getElem hil) rfl rfl rfl rfl rfl rfl rfl rfl rfl ?_)
  intro eb eo eu hr2 hat
  obtain ⟨rfl, _⟩ := hr2
  refine lC (o_ld tK (hat.cell 0 _ rfl) rfl rfl rfl rfl rfl ?_)
  refine l_p 1 tK rfl (q1 (c_reg (l_p 3 tK rfl ?_)))
  refine lC (o_ld tK (hn.cell 0 _ rfl) rfl rfl rfl rfl rfl ?_)
  refine l_p 1 tK rfl ?_
  have hti := times_le (l.take i) l[i]
  have hbi := bnd_incs (1) l[i] (l.take i) (x.1)
  have hbx2 := hbx l[i]
  rw [List.length_take] at hti
  have hg : (getK (incs x.1 (l.take i) (1)) l[i]).getD 0 = bnd (incs x.1 (l.take i) (1)) l[i] := rfl
  refine lC (o_look (z := 0) tK hm.map (k := l[i]) rfl rfl rfl rfl ⟨_, Tryz.underlying9, rfl⟩ rfl rfl rfl rfl ?_)
  refine lC (o_ar rfl rfl rfl (z := bnd (incs x.1 (l.take i) (1)) l[i] + (1)) (by rw [hg]; exact IntWalk.i64_in _ (by omega)) rfl rfl ?_)
  refine lC (o_mupd tK hm.map (k := l[i]) (v := bnd (incs x.1 (l.take i) (1)) l[i] + (1)) rfl rfl rfl rfl rfl ⟨_, Tryz.underlying9, rfl⟩ rfl ?_)
  intro w3 hw3 qw3 bew3
  have uw3 : UpdB _ _ _ := ⟨qw3, bew3⟩
  have sw3 := uw3.stp hm.inM hlow hm.ge
  have frw3 := qw3.2
  replace hT := hT.then sw3
  replace hfr := hfr.stp sw3 (fun x hx => frw3 x (hfr.lt x hx).2 (d_hfr_hm x hx))
  replace hf := hf.stp sw3 (frw3 fm hf.lt ne_hm_hf.symm)
  replace hn := hn.stp sw3
  replace h4 := h4.stp sw3
  replace ht := Rep.stp ht sw3
  replace ha := Rep.stp ha sw3
  replace hk := hk.stp sw3
  replace hs := hs.stp sw3
  replace hlow := sw3.low
  replace hB := sw3.z hB
  replace hm : OM _ _ _ w3 _ (putK (incs x.1 (l.take i) (1)) l[i] (bnd (incs x.1 (l.take i) (1)) l[i] + (1))) := ⟨hw3, hm.inM, hm.ge⟩
  refine q2 (x_seq (c_reg ?_))
  refine lC (o_ai rfl rfl rfl (by omega) rfl rfl ?_)
  refine l_p 1 tK rfl (l_nil ?_)
  exact x_round (i + 1) (s6 rfl rfl rfl rfl (get_num rfl (by omega)) rfl) ⟨by omega, by rw [incs_step hil]; exact hm, hf, hn, hT, hfr, hlow, hB, h4, ht, ha, hk, hs⟩ (by omega)
 refine c_exit (x_seqE (x_seqE (x_blkE (x_seq (q0 (l_p 1 tK rfl ?_))))))
 refine lC (o_lds tK (fun j v hv => h4.cell j v hv) rfl rfl rfl rfl rfl rfl ?_)
 obtain rfl : i = l.length := by omega
 rw [List.take_of_length_le (Nat.le_refl _)] at hm
 have hbk : ∀ s, 0 ≤ bnd (incs x.1 l 1) s ∧ bnd (incs x.1 l 1) s ≤ ((K + 2 : Nat) : Int) := fun s => by
  have h1 := times_le l s
  have h2 := hbx s
  rw [bnd_incs]; omega
 refine lC (o_call fo34 rfl rfl rfl (hd (K + 2) (incs x.1 l 1, x.2) M _ B _ np bm fm b hr ht hn hm hf hne hlow hB hbk (by omega)) ?_)
 rintro _ w4 ⟨rfl, hmw4, hfw4, sw4, kw4⟩
 have frw4 : ∀ x, x < w2.heap.size → ¬ (x = bm ∨ x = fm) → w4.heap[x]? = w2.heap[x]? := fun x hx hn => kw4.blk x ⟨hx, hn⟩
 replace hT := hT.then sw4
 replace hfr := hfr.stp sw4 (fun x hx => frw4 x (hfr.lt x hx).2 hx.2)
 replace hn := hn.stp sw4
 replace h4 := h4.stp sw4
 replace ht := Rep.stp ht sw4
 replace ha := Rep.stp ha sw4
 replace hk := hk.stp sw4
 replace hs := hs.stp sw4
 replace hlow := sw4.low
 replace hB := sw4.z hB
 replace hm := hmw4
 replace hf := hfw4
 clear hmw4 hfw4
 refine q1 (q0 (l_p 1 tK rfl ?_))
 refine lC (o_len tK hs rfl rfl rfl rfl rfl ?_)
 refine l_p 1 tK rfl (q1 (c_blk ?_))
 refine c_loop (X := Nat) (fun i => [(0, .pointer (some ⟨np, 0, none⟩)), (2, vl), (27, vl), (28, .int .i64 (l.length : Int)), (29, .int .i64 (i : Nat))]) (fun i w' => i ≤ l.length ∧ OM (κ := ByteArray) (fun x : Int => Value.int .i64 x) B M w' bm (incs (downF t (incs x.1 l 1, x.2)).1 (l.take i) (-1)) ∧ OM (κ := ByteArray) (fun x : Bool => Value.bool x) B M w' fm ((downF t (incs x.1 l 1, x.2)).2) ∧ At M w' np 0 [.map (some bm), .map (some fm)] ∧ Stp B M M w w' ∧ Kept w w' (Out (fun z => z = bm ∨ z = fm) w) ∧ Low M w' ∧ B ≤ w'.heap.size ∧ Sl M w' vl l) (fun i => l.length - i) (0) (s5 rfl rfl rfl rfl rfl) ?_ ?_
 ·exact ⟨Nat.zero_le _, hm, hf, hn, hT, hfr, hlow, hB, hs⟩
 clear hm hf hn hT hfr hlow hB hs
 rintro i w5 ⟨hi, hm, hf, hn, hT, hfr, hlow, hB, hs⟩
 refine q0 (l_p 1 tK rfl (q1 (c_seq ?_)))
 refine c_ifP _ rfl (fun c2 => ?_) (fun c2 => ?_)
 ·refine c_skip (x_seq (c_seq (c_blk (q0 ?_))))
  have hil : i < l.length := by omega
  refine lC (o_ixS tK hs (List.getElem?_eq_getElem hil) rfl rfl rfl rfl rfl rfl rfl rfl rfl ?_)
  intro eb eo eu hr2 hat
  obtain ⟨rfl, _⟩ := hr2
  refine lC (o_ld tK (hat.cell 0 _ rfl) rfl rfl rfl rfl rfl ?_)
  refine l_p 1 tK rfl (q1 (c_reg (l_p 3 tK rfl ?_)))
  refine lC (o_ld tK (hn.cell 0 _ rfl) rfl rfl rfl rfl rfl ?_)
  refine l_p 1 tK rfl ?_
  have hti := times_le (l.take i) l[i]
  have hbi := bnd_incs (-1) l[i] (l.take i) ((downF t (incs x.1 l 1, x.2)).1)
  have hbx2 := hbx l[i]
  rw [List.length_take] at hti
  have hg : (getK (incs (downF t (incs x.1 l 1, x.2)).1 (l.take i) (-1)) l[i]).getD 0 = bnd (incs (downF t (incs x.1 l 1, x.2)).1 (l.take i) (-1)) l[i] := rfl
  have htl := times_le l l[i]
  have hbd : bnd (downF t (incs x.1 l 1, x.2)).1 l[i] = bnd x.1 l[i] + times l l[i] * 1 := by rw [down_same, bnd_incs]
  refine lC (o_look (z := 0) tK hm.map (k := l[i]) rfl rfl rfl rfl ⟨_, Tryz.underlying9, rfl⟩ rfl rfl rfl rfl ?_)
  refine lC (o_ar rfl rfl rfl (z := bnd (incs (downF t (incs x.1 l 1, x.2)).1 (l.take i) (-1)) l[i] + (-1)) (by rw [hg, show bnd (incs (downF t (incs x.1 l 1, x.2)).1 (l.take i) (-1)) l[i] - 1 = bnd (incs (downF t (incs x.1 l 1, x.2)).1 (l.take i) (-1)) l[i] + (-1) by omega]; exact IntWalk.i64_in _ (by omega)) rfl rfl ?_)
  refine lC (o_mupd tK hm.map (k := l[i]) (v := bnd (incs (downF t (incs x.1 l 1, x.2)).1 (l.take i) (-1)) l[i] + (-1)) rfl rfl rfl rfl rfl ⟨_, Tryz.underlying9, rfl⟩ rfl ?_)
  intro w6 hw6 qw6 bew6
  have uw6 : UpdB _ _ _ := ⟨qw6, bew6⟩
  have sw6 := uw6.stp hm.inM hlow hm.ge
  have frw6 := qw6.2
  replace hT := hT.then sw6
  replace hfr := hfr.stp sw6 (fun x hx => frw6 x (hfr.lt x hx).2 (d_hfr_hm x hx))
  replace hf := hf.stp sw6 (frw6 fm hf.lt ne_hm_hf.symm)
  replace hn := hn.stp sw6
  replace hs := hs.stp sw6
  replace hlow := sw6.low
  replace hB := sw6.z hB
  replace hm : OM _ _ _ w6 _ (putK (incs (downF t (incs x.1 l 1, x.2)).1 (l.take i) (-1)) l[i] (bnd (incs (downF t (incs x.1 l 1, x.2)).1 (l.take i) (-1)) l[i] + (-1))) := ⟨hw6, hm.inM, hm.ge⟩
  refine q2 (x_seq (c_reg ?_))
  refine lC (o_ai rfl rfl rfl (by omega) rfl rfl ?_)
  refine l_p 1 tK rfl (l_nil ?_)
  exact x_round (i + 1) (s5 rfl rfl rfl rfl (get_num rfl (by omega))) ⟨by omega, by rw [incs_step hil]; exact hm, hf, hn, hT, hfr, hlow, hB, hs⟩ (by omega)
 refine c_exit (x_seqE (x_seqE (x_blkE ?_)))
 refine x_ret0n rfl ?_
 obtain rfl : i = l.length := by omega
 rw [List.take_of_length_le (Nat.le_refl _)] at hm
 exact ⟨rfl, hm, hf, hT, hfr⟩
theorem down_spec : ∀ (t : Tm), DownC t := by
 refine Tm.ind fun t ih => ?_
 intro K x M w B v np bm fm b hr ht hn hm hf hne hlow hB hbx hK
 obtain ⟨hrl, hrk, hro, _⟩ := right_kids hr
 have hkz := fun k (hk : k ∈ t.kids) => kid_nsz hk
 have hT : Stp B M M w w := Stp.refl hlow
 have hfr : Kept w w (Out (fun z => z = bm ∨ z = fm) w) := Kept.refl (fun x hx => hx.1)
 have d_hfr_hm : ∀ x, (Out (fun z => z = bm ∨ z = fm) w) x → x ≠ bm := fun x hx e => hx.2 (.inl e)
 have d_hfr_hf : ∀ x, (Out (fun z => z = bm ∨ z = fm) w) x → x ≠ fm := fun x hx e => hx.2 (.inr e)
 have ne_hm_hf := hne
 obtain ⟨akv, kv, rfl, op, nm, ag, n64, ha, hk⟩ := tm_open ht
 have hlt := hk.lt
 refine c_enter (n := 78) Tryz.func34 rfl rfl rfl ?_
 refine q0 ?_
 refine lC (o_box rfl rfl rfl ?_)
 intro b3 w1 hb_b3 ew1 h3
 replace h3 : Box _ b3 28 [.int .u8 t.op, .string t.name, .string t.arg, .int .i64 t.n, .bool t.has, .int .u8 t.ann.op, .string t.ann.name, .int .i64 t.ann.n, akv, kv] := h3
 replace h3 := h3.at (nM_of hlow hb_b3)
 replace hT := hT.then (Stp.ext ew1 hlow hB)
 replace hfr := hfr.ext hlow hB ew1
 replace hm := hm.ext hlow hB ew1
 replace hf := hf.ext hlow hB ew1
 replace hn := hn.ext ew1
 replace ht := Rep.ext ht ew1
 replace ha := Rep.ext ha ew1
 replace hk := hk.ext ew1
 replace hlow := hlow.ext ew1
 replace hB := ew1.z hB
 refine q1 (q0 (l_p 1 tK rfl ?_))
 refine lC (o_ld tK (h3.cell 0 _ rfl) rfl rfl rfl rfl rfl ?_)
 refine q1 (c_blk (q0 (l_p 2 tK rfl (q1 ?_))))
 refine c_ifP _ rfl (fun c1 => ?_) (fun c1 => ?_)
 ·refine c_seq ?_
  refine a_beg Ext rfl ?_
  intro w2 ew2
  replace hT := hT.then (Stp.ext ew2 hlow hB)
  replace hfr := hfr.ext hlow hB ew2
  replace hm := hm.ext hlow hB ew2
  replace hf := hf.ext hlow hB ew2
  replace hn := hn.ext ew2
  replace ht := Rep.ext ht ew2
  replace ha := Rep.ext ha ew2
  replace hk := hk.ext ew2
  replace h3 := h3.ext ew2
  replace hlow := hlow.ext ew2
  replace hB := ew2.z hB
  have hS : Ext w2 w2 := ext_refl _
  have D_hn := hn
  have D_hk := hk
  have D_h3 := h3
  refine a_p 0 tK rfl rfl rfl rfl (by kernel_rfl) (fun _ _ _ h => h) hS ?_
  refine a_p 1 tK rfl rfl rfl rfl (by kernel_rfl) (fun _ _ _ h => h) hS ?_
  refine a_p 2 tK rfl rfl rfl rfl (by kernel_rfl) (fun _ _ _ h => h) hS ?_
  refine a_ld 3 tK (fun _ hs => (D_hn.ext hs).cell 0 _ rfl) rfl rfl rfl rfl rfl rfl (by kernel_rfl) (fun _ _ _ h => h) hS ?_
  refine a_p 4 tK rfl rfl rfl rfl (by kernel_rfl) (fun _ _ _ h => h) hS ?_
  refine a_ld 5 tK (fun _ hs => (D_h3.ext hs).cell 1 _ rfl) rfl rfl rfl rfl rfl rfl (by kernel_rfl) (fun _ _ _ h => h) hS ?_
  refine a_bar 6 rfl (by kernel_rfl) (by kernel_rfl) (o_look (z := 0) tK hm.map (k := t.name) rfl rfl rfl rfl ⟨_, Tryz.underlying9, rfl⟩ rfl rfl rfl rfl ?_)
  refine a_p 7 tK rfl rfl rfl rfl (by kernel_rfl) (fun _ _ _ h => h) hS ?_
  refine a_end (by kernel_rfl) ?_
  refine x_seq ?_
  refine c_ifP _ rfl (fun c2 => ?_) (fun c2 => ?_)
  ·refine a_beg Ext rfl ?_
   intro w3 ew3
   replace hT := hT.then (Stp.ext ew3 hlow hB)
   replace hfr := hfr.ext hlow hB ew3
   replace hm := hm.ext hlow hB ew3
   replace hf := hf.ext hlow hB ew3
   replace hn := hn.ext ew3
   replace ht := Rep.ext ht ew3
   replace ha := Rep.ext ha ew3
   replace hk := hk.ext ew3
   replace h3 := h3.ext ew3
   replace hlow := hlow.ext ew3
   replace hB := ew3.z hB
   have hS : Ext w3 w3 := ext_refl _
   have D_hn := hn
   have D_hk := hk
   have D_h3 := h3
   refine a_p 0 tK rfl rfl rfl rfl (by kernel_rfl) (fun _ _ _ h => h) hS ?_
   refine a_p 1 tK rfl rfl rfl rfl (by kernel_rfl) (fun _ _ _ h => h) hS ?_
   refine a_p 2 tK rfl rfl rfl rfl (by kernel_rfl) (fun _ _ _ h => h) hS ?_
   refine a_ld 3 tK (fun _ hs => (D_hn.ext hs).cell 1 _ rfl) rfl rfl rfl rfl rfl rfl (by kernel_rfl) (fun _ _ _ h => h) hS ?_
   refine a_p 4 tK rfl rfl rfl rfl (by kernel_rfl) (fun _ _ _ h => h) hS ?_
   refine a_ld 5 tK (fun _ hs => (D_h3.ext hs).cell 1 _ rfl) rfl rfl rfl rfl rfl rfl (by kernel_rfl) (fun _ _ _ h => h) hS ?_
   refine a_barS Ext 6 rfl (by kernel_rfl) (by kernel_rfl) (o_mupd tK hf.map (k := t.name) (v := true) rfl rfl rfl rfl rfl ⟨_, Tryz.underlying9, rfl⟩ rfl ?_)
   intro w4 hw4 qw4 bew4
   have uw4 : UpdB _ _ _ := ⟨qw4, bew4⟩
   have sw4 := uw4.stp hf.inM hlow hf.ge
   have frw4 := qw4.2
   replace hT := hT.then sw4
   replace hfr := hfr.stp sw4 (fun x hx => frw4 x (hfr.lt x hx).2 (d_hfr_hf x hx))
   replace hm := hm.stp sw4 (frw4 bm hm.lt ne_hm_hf)
   replace hn := hn.stp sw4
   replace ht := Rep.stp ht sw4
   replace ha := Rep.stp ha sw4
   replace hk := hk.stp sw4
   replace h3 := h3.stp sw4
   replace hlow := sw4.low
   replace hB := sw4.z hB
   replace hS : Ext w4 w4 := ext_refl _
   replace hf : OM _ _ _ w4 _ (putK x.2 t.name true) := ⟨hw4, hf.inM, hf.ge⟩
   have D_hn := hn
   have D_hk := hk
   have D_h3 := h3
   refine a_end (by kernel_rfl) ?_
   refine x_blk ?_
   refine x_ret0n rfl ?_
   have hz0 : bnd x.1 t.name = 0 := by assumption
   rw [down_var (by omega), if_pos hz0]
   exact ⟨rfl, hm, hf, hT, hfr⟩
  refine c_skip (x_blk ?_)
  refine x_ret0n rfl ?_
  have hz0 : ¬ bnd x.1 t.name = 0 := by assumption
  rw [down_var (by omega), if_neg hz0]
  exact ⟨rfl, hm, hf, hT, hfr⟩
 refine c_seq (q0 (l_p 2 tK rfl (q1 ?_)))
 refine c_splitP 35 _ rfl (fun c3 => c_ifT rfl ?_) (fun c3 => c_ifF rfl ?_)
 ·refine c_skip (x_seq (c_ifT rfl ?_))
  refine a_beg Ext rfl ?_
  intro w5 ew5
  replace hT := hT.then (Stp.ext ew5 hlow hB)
  replace hfr := hfr.ext hlow hB ew5
  replace hm := hm.ext hlow hB ew5
  replace hf := hf.ext hlow hB ew5
  replace hn := hn.ext ew5
  replace ht := Rep.ext ht ew5
  replace ha := Rep.ext ha ew5
  replace hk := hk.ext ew5
  replace h3 := h3.ext ew5
  replace hlow := hlow.ext ew5
  replace hB := ew5.z hB
  have hS : Ext w5 w5 := ext_refl _
  have D_hn := hn
  have D_hk := hk
  have D_h3 := h3
  refine a_p 0 tK rfl rfl rfl rfl (by kernel_rfl) (fun _ _ _ h => h) hS ?_
  refine a_p 1 tK rfl rfl rfl rfl (by kernel_rfl) (fun _ _ _ h => h) hS ?_
  refine a_ld 2 tK (fun _ hs => (D_h3.ext hs).cell 9 _ rfl) rfl rfl rfl rfl rfl rfl (by kernel_rfl) (fun _ _ _ h => h) hS ?_
  have hl1 : (t.kids.length : Int) = 1 := by
   have h8 := shp_one (op := t.op) (by omega)
   rw [hrl h8.2, h8.1]
  have h0k : 0 < t.kids.length := by omega
  refine a_ixS 3 tK D_hk (List.getElem?_eq_getElem h0k) rfl rfl rfl rfl rfl rfl rfl rfl rfl rfl (by kernel_rfl) (fun _ _ _ _ h => h) hS ?_
  intro ebx0 eox0 eux0 hyx0 hatx0
  obtain ⟨akvx0, kvx0, rfl, opx0, nmx0, agx0, n64x0, hax0, hkx0⟩ := tm_open hyx0
  replace hatx0 : At M w5 ebx0 eox0 [.int .u8 t.kids[0].op, .string t.kids[0].name, .string t.kids[0].arg, .int .i64 t.kids[0].n, .bool t.kids[0].has, .int .u8 t.kids[0].ann.op, .string t.kids[0].ann.name, .int .i64 t.kids[0].ann.n, akvx0, kvx0] := hatx0
  refine a_lds 4 tK (fun _ hs j v hv => (hatx0.ext hs).cell j v hv) rfl rfl rfl rfl rfl rfl rfl (by kernel_rfl) (fun _ _ _ h => h) hS ?_
  refine a_p 5 tK rfl rfl rfl rfl (by kernel_rfl) (fun _ _ _ h => h) hS ?_
  refine a_ld 6 tK (fun _ hs => (D_h3.ext hs).cell 2 _ rfl) rfl rfl rfl rfl rfl rfl (by kernel_rfl) (fun _ _ _ h => h) hS ?_
  refine a_one 7 rfl (by kernel_rfl) (o_bs tK rfl rfl rfl rfl rfl rfl rfl (sz1 rfl) rfl rfl rfl ?_)
  intro bw6 w6 qbw6 ew6 hbw6
  have nbw6 := nM_of hlow qbw6
  replace hS := hS.then ew6
  replace hT := hT.then (Stp.ext ew6 hlow hB)
  replace hfr := hfr.ext hlow hB ew6
  replace hm := hm.ext hlow hB ew6
  replace hf := hf.ext hlow hB ew6
  replace hn := hn.ext ew6
  replace ht := Rep.ext ht ew6
  replace ha := Rep.ext ha ew6
  replace hk := hk.ext ew6
  replace h3 := h3.ext ew6
  replace hyx0 := Rep.ext hyx0 ew6
  replace hax0 := Rep.ext hax0 ew6
  replace hkx0 := hkx0.ext ew6
  replace hatx0 := hatx0.ext ew6
  replace hlow := hlow.ext ew6
  replace hB := ew6.z hB
  refine ⟨hS, ?_⟩
  have hs : Sl M w6 (.slice (some ⟨bw6, 0, none⟩) 1 1) [t.arg] := lit_sl hbw6 nbw6 (show Rs _ _ [_] [t.arg] from ⟨⟨rfl, ag⟩, trivial⟩) (by simp)
  obtain ⟨bk, hbk⟩ := hrk _ (List.getElem_mem h0k)
  have hz9 := hkz _ (List.getElem_mem h0k)
  refine a_barS Ext 8 rfl (by kernel_rfl) (by kernel_rfl) (o_call fo59 rfl rfl rfl (within_of t.kids[0] (ih _ (List.getElem_mem h0k)) [t.arg] K x M _ B _ _ np bm fm bk hbk hyx0 hs hn hm hf hne hlow hB hbx (by simp) (by omega)) ?_)
  rintro _ w7 ⟨rfl, hmw7, hfw7, sw7, kw7⟩
  have frw7 : ∀ x, x < w6.heap.size → ¬ (x = bm ∨ x = fm) → w7.heap[x]? = w6.heap[x]? := fun x hx hn => kw7.blk x ⟨hx, hn⟩
  replace hT := hT.then sw7
  replace hfr := hfr.stp sw7 (fun x hx => frw7 x (hfr.lt x hx).2 hx.2)
  replace hn := hn.stp sw7
  replace ht := Rep.stp ht sw7
  replace ha := Rep.stp ha sw7
  replace hk := hk.stp sw7
  replace h3 := h3.stp sw7
  replace hyx0 := Rep.stp hyx0 sw7
  replace hax0 := Rep.stp hax0 sw7
  replace hkx0 := hkx0.stp sw7
  replace hatx0 := hatx0.stp sw7
  replace hs := hs.stp sw7
  replace hlow := sw7.low
  replace hB := sw7.z hB
  replace hS : Ext w7 w7 := ext_refl _
  replace hm := hmw7
  replace hf := hfw7
  clear hmw7 hfw7
  have D_hn := hn
  have D_hk := hk
  have D_h3 := h3
  have D_hkx0 := hkx0
  have D_hatx0 := hatx0
  have D_hs := hs
  refine a_end (by kernel_rfl) ?_
  refine x_blk ?_
  refine x_ret0n rfl ?_
  rw [down_one (by omega) h0k]
  exact ⟨rfl, hm, hf, hT, hfr⟩
 refine q0 (l_p 2 tK rfl (q1 ?_))
 refine c_splitP 35 _ rfl (fun c4 => c_ifT rfl ?_) (fun c4 => c_ifF rfl ?_)
 ·refine c_skip (x_seq (c_ifT rfl ?_))
  refine a_beg Ext rfl ?_
  intro w8 ew8
  replace hT := hT.then (Stp.ext ew8 hlow hB)
  replace hfr := hfr.ext hlow hB ew8
  replace hm := hm.ext hlow hB ew8
  replace hf := hf.ext hlow hB ew8
  replace hn := hn.ext ew8
  replace ht := Rep.ext ht ew8
  replace ha := Rep.ext ha ew8
  replace hk := hk.ext ew8
  replace h3 := h3.ext ew8
  replace hlow := hlow.ext ew8
  replace hB := ew8.z hB
  have hS : Ext w8 w8 := ext_refl _
  have D_hn := hn
  have D_hk := hk
  have D_h3 := h3
  refine a_p 0 tK rfl rfl rfl rfl (by kernel_rfl) (fun _ _ _ h => h) hS ?_
  refine a_p 1 tK rfl rfl rfl rfl (by kernel_rfl) (fun _ _ _ h => h) hS ?_
  refine a_ld 2 tK (fun _ hs => (D_h3.ext hs).cell 9 _ rfl) rfl rfl rfl rfl rfl rfl (by kernel_rfl) (fun _ _ _ h => h) hS ?_
  have hl1 : (t.kids.length : Int) = 1 := by
   have h8 := shp_one (op := t.op) (by omega)
   rw [hrl h8.2, h8.1]
  have h0k : 0 < t.kids.length := by omega
  refine a_ixS 3 tK D_hk (List.getElem?_eq_getElem h0k) rfl rfl rfl rfl rfl rfl rfl rfl rfl rfl (by kernel_rfl) (fun _ _ _ _ h => h) hS ?_
  intro ebx0 eox0 eux0 hyx0 hatx0
  obtain ⟨akvx0, kvx0, rfl, opx0, nmx0, agx0, n64x0, hax0, hkx0⟩ := tm_open hyx0
  replace hatx0 : At M w8 ebx0 eox0 [.int .u8 t.kids[0].op, .string t.kids[0].name, .string t.kids[0].arg, .int .i64 t.kids[0].n, .bool t.kids[0].has, .int .u8 t.kids[0].ann.op, .string t.kids[0].ann.name, .int .i64 t.kids[0].ann.n, akvx0, kvx0] := hatx0
  refine a_lds 4 tK (fun _ hs j v hv => (hatx0.ext hs).cell j v hv) rfl rfl rfl rfl rfl rfl rfl (by kernel_rfl) (fun _ _ _ h => h) hS ?_
  refine a_p 5 tK rfl rfl rfl rfl (by kernel_rfl) (fun _ _ _ h => h) hS ?_
  refine a_ld 6 tK (fun _ hs => (D_h3.ext hs).cell 2 _ rfl) rfl rfl rfl rfl rfl rfl (by kernel_rfl) (fun _ _ _ h => h) hS ?_
  refine a_one 7 rfl (by kernel_rfl) (o_bs tK rfl rfl rfl rfl rfl rfl rfl (sz1 rfl) rfl rfl rfl ?_)
  intro bw9 w9 qbw9 ew9 hbw9
  have nbw9 := nM_of hlow qbw9
  replace hS := hS.then ew9
  replace hT := hT.then (Stp.ext ew9 hlow hB)
  replace hfr := hfr.ext hlow hB ew9
  replace hm := hm.ext hlow hB ew9
  replace hf := hf.ext hlow hB ew9
  replace hn := hn.ext ew9
  replace ht := Rep.ext ht ew9
  replace ha := Rep.ext ha ew9
  replace hk := hk.ext ew9
  replace h3 := h3.ext ew9
  replace hyx0 := Rep.ext hyx0 ew9
  replace hax0 := Rep.ext hax0 ew9
  replace hkx0 := hkx0.ext ew9
  replace hatx0 := hatx0.ext ew9
  replace hlow := hlow.ext ew9
  replace hB := ew9.z hB
  refine ⟨hS, ?_⟩
  have hs : Sl M w9 (.slice (some ⟨bw9, 0, none⟩) 1 1) [t.arg] := lit_sl hbw9 nbw9 (show Rs _ _ [_] [t.arg] from ⟨⟨rfl, ag⟩, trivial⟩) (by simp)
  obtain ⟨bk, hbk⟩ := hrk _ (List.getElem_mem h0k)
  have hz9 := hkz _ (List.getElem_mem h0k)
  refine a_barS Ext 8 rfl (by kernel_rfl) (by kernel_rfl) (o_call fo59 rfl rfl rfl (within_of t.kids[0] (ih _ (List.getElem_mem h0k)) [t.arg] K x M _ B _ _ np bm fm bk hbk hyx0 hs hn hm hf hne hlow hB hbx (by simp) (by omega)) ?_)
  rintro _ w10 ⟨rfl, hmw10, hfw10, sw10, kw10⟩
  have frw10 : ∀ x, x < w9.heap.size → ¬ (x = bm ∨ x = fm) → w10.heap[x]? = w9.heap[x]? := fun x hx hn => kw10.blk x ⟨hx, hn⟩
  replace hT := hT.then sw10
  replace hfr := hfr.stp sw10 (fun x hx => frw10 x (hfr.lt x hx).2 hx.2)
  replace hn := hn.stp sw10
  replace ht := Rep.stp ht sw10
  replace ha := Rep.stp ha sw10
  replace hk := hk.stp sw10
  replace h3 := h3.stp sw10
  replace hyx0 := Rep.stp hyx0 sw10
  replace hax0 := Rep.stp hax0 sw10
  replace hkx0 := hkx0.stp sw10
  replace hatx0 := hatx0.stp sw10
  replace hs := hs.stp sw10
  replace hlow := sw10.low
  replace hB := sw10.z hB
  replace hS : Ext w10 w10 := ext_refl _
  replace hm := hmw10
  replace hf := hfw10
  clear hmw10 hfw10
  have D_hn := hn
  have D_hk := hk
  have D_h3 := h3
  have D_hkx0 := hkx0
  have D_hatx0 := hatx0
  have D_hs := hs
  refine a_end (by kernel_rfl) ?_
  refine x_blk ?_
  refine x_ret0n rfl ?_
  rw [down_one (by omega) h0k]
  exact ⟨rfl, hm, hf, hT, hfr⟩
 refine c_reg (l_p 2 tK rfl (q1 ?_))
 refine c_splitP 35 _ rfl (fun c5 => c_ifT rfl ?_) (fun c5 => c_ifF rfl ?_)
 ·refine a_beg Ext rfl ?_
  intro w11 ew11
  replace hT := hT.then (Stp.ext ew11 hlow hB)
  replace hfr := hfr.ext hlow hB ew11
  replace hm := hm.ext hlow hB ew11
  replace hf := hf.ext hlow hB ew11
  replace hn := hn.ext ew11
  replace ht := Rep.ext ht ew11
  replace ha := Rep.ext ha ew11
  replace hk := hk.ext ew11
  replace h3 := h3.ext ew11
  replace hlow := hlow.ext ew11
  replace hB := ew11.z hB
  have hS : Ext w11 w11 := ext_refl _
  have D_hn := hn
  have D_hk := hk
  have D_h3 := h3
  refine a_p 0 tK rfl rfl rfl rfl (by kernel_rfl) (fun _ _ _ h => h) hS ?_
  refine a_p 1 tK rfl rfl rfl rfl (by kernel_rfl) (fun _ _ _ h => h) hS ?_
  refine a_ld 2 tK (fun _ hs => (D_h3.ext hs).cell 9 _ rfl) rfl rfl rfl rfl rfl rfl (by kernel_rfl) (fun _ _ _ h => h) hS ?_
  have hl1 : (t.kids.length : Int) = 1 := by
   have h8 := shp_one (op := t.op) (by omega)
   rw [hrl h8.2, h8.1]
  have h0k : 0 < t.kids.length := by omega
  refine a_ixS 3 tK D_hk (List.getElem?_eq_getElem h0k) rfl rfl rfl rfl rfl rfl rfl rfl rfl rfl (by kernel_rfl) (fun _ _ _ _ h => h) hS ?_
  intro ebx0 eox0 eux0 hyx0 hatx0
  obtain ⟨akvx0, kvx0, rfl, opx0, nmx0, agx0, n64x0, hax0, hkx0⟩ := tm_open hyx0
  replace hatx0 : At M w11 ebx0 eox0 [.int .u8 t.kids[0].op, .string t.kids[0].name, .string t.kids[0].arg, .int .i64 t.kids[0].n, .bool t.kids[0].has, .int .u8 t.kids[0].ann.op, .string t.kids[0].ann.name, .int .i64 t.kids[0].ann.n, akvx0, kvx0] := hatx0
  refine a_lds 4 tK (fun _ hs j v hv => (hatx0.ext hs).cell j v hv) rfl rfl rfl rfl rfl rfl rfl (by kernel_rfl) (fun _ _ _ h => h) hS ?_
  refine a_p 5 tK rfl rfl rfl rfl (by kernel_rfl) (fun _ _ _ h => h) hS ?_
  refine a_ld 6 tK (fun _ hs => (D_h3.ext hs).cell 2 _ rfl) rfl rfl rfl rfl rfl rfl (by kernel_rfl) (fun _ _ _ h => h) hS ?_
  refine a_one 7 rfl (by kernel_rfl) (o_bs tK rfl rfl rfl rfl rfl rfl rfl (sz1 rfl) rfl rfl rfl ?_)
  intro bw12 w12 qbw12 ew12 hbw12
  have nbw12 := nM_of hlow qbw12
  replace hS := hS.then ew12
  replace hT := hT.then (Stp.ext ew12 hlow hB)
  replace hfr := hfr.ext hlow hB ew12
  replace hm := hm.ext hlow hB ew12
  replace hf := hf.ext hlow hB ew12
  replace hn := hn.ext ew12
  replace ht := Rep.ext ht ew12
  replace ha := Rep.ext ha ew12
  replace hk := hk.ext ew12
  replace h3 := h3.ext ew12
  replace hyx0 := Rep.ext hyx0 ew12
  replace hax0 := Rep.ext hax0 ew12
  replace hkx0 := hkx0.ext ew12
  replace hatx0 := hatx0.ext ew12
  replace hlow := hlow.ext ew12
  replace hB := ew12.z hB
  refine ⟨hS, ?_⟩
  have hs : Sl M w12 (.slice (some ⟨bw12, 0, none⟩) 1 1) [t.arg] := lit_sl hbw12 nbw12 (show Rs _ _ [_] [t.arg] from ⟨⟨rfl, ag⟩, trivial⟩) (by simp)
  obtain ⟨bk, hbk⟩ := hrk _ (List.getElem_mem h0k)
  have hz9 := hkz _ (List.getElem_mem h0k)
  refine a_barS Ext 8 rfl (by kernel_rfl) (by kernel_rfl) (o_call fo59 rfl rfl rfl (within_of t.kids[0] (ih _ (List.getElem_mem h0k)) [t.arg] K x M _ B _ _ np bm fm bk hbk hyx0 hs hn hm hf hne hlow hB hbx (by simp) (by omega)) ?_)
  rintro _ w13 ⟨rfl, hmw13, hfw13, sw13, kw13⟩
  have frw13 : ∀ x, x < w12.heap.size → ¬ (x = bm ∨ x = fm) → w13.heap[x]? = w12.heap[x]? := fun x hx hn => kw13.blk x ⟨hx, hn⟩
  replace hT := hT.then sw13
  replace hfr := hfr.stp sw13 (fun x hx => frw13 x (hfr.lt x hx).2 hx.2)
  replace hn := hn.stp sw13
  replace ht := Rep.stp ht sw13
  replace ha := Rep.stp ha sw13
  replace hk := hk.stp sw13
  replace h3 := h3.stp sw13
  replace hyx0 := Rep.stp hyx0 sw13
  replace hax0 := Rep.stp hax0 sw13
  replace hkx0 := hkx0.stp sw13
  replace hatx0 := hatx0.stp sw13
  replace hs := hs.stp sw13
  replace hlow := sw13.low
  replace hB := sw13.z hB
  replace hS : Ext w13 w13 := ext_refl _
  replace hm := hmw13
  replace hf := hfw13
  clear hmw13 hfw13
  have D_hn := hn
  have D_hk := hk
  have D_h3 := h3
  have D_hkx0 := hkx0
  have D_hatx0 := hatx0
  have D_hs := hs
  refine a_end (by kernel_rfl) ?_
  refine x_blk ?_
  refine x_ret0n rfl ?_
  rw [down_one (by omega) h0k]
  exact ⟨rfl, hm, hf, hT, hfr⟩
 refine q0 (l_p 2 tK rfl (q1 ?_))
 refine c_ifP _ rfl (fun c6 => ?_) (fun c6 => ?_)
 ·refine a_beg Ext rfl ?_
  intro w14 ew14
  replace hT := hT.then (Stp.ext ew14 hlow hB)
  replace hfr := hfr.ext hlow hB ew14
  replace hm := hm.ext hlow hB ew14
  replace hf := hf.ext hlow hB ew14
  replace hn := hn.ext ew14
  replace ht := Rep.ext ht ew14
  replace ha := Rep.ext ha ew14
  replace hk := hk.ext ew14
  replace h3 := h3.ext ew14
  replace hlow := hlow.ext ew14
  replace hB := ew14.z hB
  have hS : Ext w14 w14 := ext_refl _
  have D_hn := hn
  have D_hk := hk
  have D_h3 := h3
  refine a_p 0 tK rfl rfl rfl rfl (by kernel_rfl) (fun _ _ _ h => h) hS ?_
  refine a_p 1 tK rfl rfl rfl rfl (by kernel_rfl) (fun _ _ _ h => h) hS ?_
  refine a_ld 2 tK (fun _ hs => (D_h3.ext hs).cell 9 _ rfl) rfl rfl rfl rfl rfl rfl (by kernel_rfl) (fun _ _ _ h => h) hS ?_
  have hl1 : (t.kids.length : Int) = 1 := by
   have h8 := shp_one (op := t.op) (by omega)
   rw [hrl h8.2, h8.1]
  have h0k : 0 < t.kids.length := by omega
  refine a_ixS 3 tK D_hk (List.getElem?_eq_getElem h0k) rfl rfl rfl rfl rfl rfl rfl rfl rfl rfl (by kernel_rfl) (fun _ _ _ _ h => h) hS ?_
  intro ebx0 eox0 eux0 hyx0 hatx0
  obtain ⟨akvx0, kvx0, rfl, opx0, nmx0, agx0, n64x0, hax0, hkx0⟩ := tm_open hyx0
  replace hatx0 : At M w14 ebx0 eox0 [.int .u8 t.kids[0].op, .string t.kids[0].name, .string t.kids[0].arg, .int .i64 t.kids[0].n, .bool t.kids[0].has, .int .u8 t.kids[0].ann.op, .string t.kids[0].ann.name, .int .i64 t.kids[0].ann.n, akvx0, kvx0] := hatx0
  refine a_lds 4 tK (fun _ hs j v hv => (hatx0.ext hs).cell j v hv) rfl rfl rfl rfl rfl rfl rfl (by kernel_rfl) (fun _ _ _ h => h) hS ?_
  refine a_p 5 tK rfl rfl rfl rfl (by kernel_rfl) (fun _ _ _ h => h) hS ?_
  refine a_ld 6 tK (fun _ hs => (D_h3.ext hs).cell 1 _ rfl) rfl rfl rfl rfl rfl rfl (by kernel_rfl) (fun _ _ _ h => h) hS ?_
  refine a_p 7 tK rfl rfl rfl rfl (by kernel_rfl) (fun _ _ _ h => h) hS ?_
  refine a_ld 8 tK (fun _ hs => (D_h3.ext hs).cell 2 _ rfl) rfl rfl rfl rfl rfl rfl (by kernel_rfl) (fun _ _ _ h => h) hS ?_
  refine a_one 9 rfl (by kernel_rfl) (o_bs tK rfl rfl rfl rfl rfl rfl rfl (by intro v hv; simp at hv; rcases hv with rfl | rfl <;> rfl) rfl rfl rfl ?_)
  intro bw15 w15 qbw15 ew15 hbw15
  have nbw15 := nM_of hlow qbw15
  replace hS := hS.then ew15
  replace hT := hT.then (Stp.ext ew15 hlow hB)
  replace hfr := hfr.ext hlow hB ew15
  replace hm := hm.ext hlow hB ew15
  replace hf := hf.ext hlow hB ew15
  replace hn := hn.ext ew15
  replace ht := Rep.ext ht ew15
  replace ha := Rep.ext ha ew15
  replace hk := hk.ext ew15
  replace h3 := h3.ext ew15
  replace hyx0 := Rep.ext hyx0 ew15
  replace hax0 := Rep.ext hax0 ew15
  replace hkx0 := hkx0.ext ew15
  replace hatx0 := hatx0.ext ew15
  replace hlow := hlow.ext ew15
  replace hB := ew15.z hB
  refine ⟨hS, ?_⟩
  have hs : Sl M w15 (.slice (some ⟨bw15, 0, none⟩) 2 2) [t.name, t.arg] := lit_sl hbw15 nbw15 (show Rs _ _ [_, _] [t.name, t.arg] from ⟨⟨rfl, nm⟩, ⟨rfl, ag⟩, trivial⟩) (by simp)
  obtain ⟨bk, hbk⟩ := hrk _ (List.getElem_mem h0k)
  have hz9 := hkz _ (List.getElem_mem h0k)
  refine a_barS Ext 10 rfl (by kernel_rfl) (by kernel_rfl) (o_call fo59 rfl rfl rfl (within_of t.kids[0] (ih _ (List.getElem_mem h0k)) [t.name, t.arg] K x M _ B _ _ np bm fm bk hbk hyx0 hs hn hm hf hne hlow hB hbx (by simp) (by omega)) ?_)
  rintro _ w16 ⟨rfl, hmw16, hfw16, sw16, kw16⟩
  have frw16 : ∀ x, x < w15.heap.size → ¬ (x = bm ∨ x = fm) → w16.heap[x]? = w15.heap[x]? := fun x hx hn => kw16.blk x ⟨hx, hn⟩
  replace hT := hT.then sw16
  replace hfr := hfr.stp sw16 (fun x hx => frw16 x (hfr.lt x hx).2 hx.2)
  replace hn := hn.stp sw16
  replace ht := Rep.stp ht sw16
  replace ha := Rep.stp ha sw16
  replace hk := hk.stp sw16
  replace h3 := h3.stp sw16
  replace hyx0 := Rep.stp hyx0 sw16
  replace hax0 := Rep.stp hax0 sw16
  replace hkx0 := hkx0.stp sw16
  replace hatx0 := hatx0.stp sw16
  replace hs := hs.stp sw16
  replace hlow := sw16.low
  replace hB := sw16.z hB
  replace hS : Ext w16 w16 := ext_refl _
  replace hm := hmw16
  replace hf := hfw16
  clear hmw16 hfw16
  have D_hn := hn
  have D_hk := hk
  have D_h3 := h3
  have D_hkx0 := hkx0
  have D_hatx0 := hatx0
  have D_hs := hs
  refine a_end (by kernel_rfl) ?_
  refine x_blk ?_
  refine x_ret0n rfl ?_
  rw [down_rec (by omega) h0k]
  exact ⟨rfl, hm, hf, hT, hfr⟩
 refine q0 (l_p 2 tK rfl (q1 ?_))
 refine c_ifP _ rfl (fun c7 => ?_) (fun c7 => ?_)
 ·refine q0 (l_p 2 tK rfl ?_)
  refine lC (o_ld tK (h3.cell 9 _ rfl) rfl rfl rfl rfl rfl ?_)
  have hl1 : (t.kids.length : Int) = 2 := by
   have h8 := shp_two (op := t.op) (by omega)
   rw [hrl h8.2, h8.1]
  have h0k : 0 < t.kids.length := by omega
  refine lC (o_ixS tK hk (List.getElem?_eq_getElem h0k) rfl rfl rfl rfl rfl rfl rfl rfl rfl ?_)
  intro ebx0 eox0 eux0 hyx0 hatx0
  obtain ⟨akvx0, kvx0, rfl, opx0, nmx0, agx0, n64x0, hax0, hkx0⟩ := tm_open hyx0
  replace hatx0 : At M w1 ebx0 eox0 [.int .u8 t.kids[0].op, .string t.kids[0].name, .string t.kids[0].arg, .int .i64 t.kids[0].n, .bool t.kids[0].has, .int .u8 t.kids[0].ann.op, .string t.kids[0].ann.name, .int .i64 t.kids[0].ann.n, akvx0, kvx0] := hatx0
  refine lC (o_lds tK (fun j v hv => hatx0.cell j v hv) rfl rfl rfl rfl rfl rfl ?_)
  obtain ⟨bk0, hbk0⟩ := hrk _ (List.getElem_mem h0k)
  have hz8 := hkz _ (List.getElem_mem h0k)
  refine lC (o_call fo34 rfl rfl rfl (ih _ (List.getElem_mem h0k) K x M _ B _ np bm fm bk0 hbk0 hyx0 hn hm hf hne hlow hB hbx (by omega)) ?_)
  rintro _ w17 ⟨rfl, hmw17, hfw17, sw17, kw17⟩
  have frw17 : ∀ x, x < w1.heap.size → ¬ (x = bm ∨ x = fm) → w17.heap[x]? = w1.heap[x]? := fun x hx hn => kw17.blk x ⟨hx, hn⟩
  replace hT := hT.then sw17
  replace hfr := hfr.stp sw17 (fun x hx => frw17 x (hfr.lt x hx).2 hx.2)
  replace hn := hn.stp sw17
  replace ht := Rep.stp ht sw17
  replace ha := Rep.stp ha sw17
  replace hk := hk.stp sw17
  replace h3 := h3.stp sw17
  replace hyx0 := Rep.stp hyx0 sw17
  replace hax0 := Rep.stp hax0 sw17
  replace hkx0 := hkx0.stp sw17
  replace hatx0 := hatx0.stp sw17
  replace hlow := sw17.low
  replace hB := sw17.z hB
  replace hm := hmw17
  replace hf := hfw17
  clear hmw17 hfw17
  refine q1 ?_
  refine a_beg Ext rfl ?_
  intro w18 ew18
  replace hT := hT.then (Stp.ext ew18 hlow hB)
  replace hfr := hfr.ext hlow hB ew18
  replace hm := hm.ext hlow hB ew18
  replace hf := hf.ext hlow hB ew18
  replace hn := hn.ext ew18
  replace ht := Rep.ext ht ew18
  replace ha := Rep.ext ha ew18
  replace hk := hk.ext ew18
  replace h3 := h3.ext ew18
  replace hyx0 := Rep.ext hyx0 ew18
  replace hax0 := Rep.ext hax0 ew18
  replace hkx0 := hkx0.ext ew18
  replace hatx0 := hatx0.ext ew18
  replace hlow := hlow.ext ew18
  replace hB := ew18.z hB
  have hS : Ext w18 w18 := ext_refl _
  have D_hn := hn
  have D_hk := hk
  have D_h3 := h3
  have D_hkx0 := hkx0
  have D_hatx0 := hatx0
  refine a_p 0 tK rfl rfl rfl rfl (by kernel_rfl) (fun _ _ _ h => h) hS ?_
  refine a_p 1 tK rfl rfl rfl rfl (by kernel_rfl) (fun _ _ _ h => h) hS ?_
  refine a_ld 2 tK (fun _ hs => (D_h3.ext hs).cell 9 _ rfl) rfl rfl rfl rfl rfl rfl (by kernel_rfl) (fun _ _ _ h => h) hS ?_
  have h1k : 1 < t.kids.length := by omega
  refine a_ixS 3 tK D_hk (List.getElem?_eq_getElem h1k) rfl rfl rfl rfl rfl rfl rfl rfl rfl rfl (by kernel_rfl) (fun _ _ _ _ h => h) hS ?_
  intro ebx1 eox1 eux1 hyx1 hatx1
  obtain ⟨akvx1, kvx1, rfl, opx1, nmx1, agx1, n64x1, hax1, hkx1⟩ := tm_open hyx1
  replace hatx1 : At M w18 ebx1 eox1 [.int .u8 t.kids[1].op, .string t.kids[1].name, .string t.kids[1].arg, .int .i64 t.kids[1].n, .bool t.kids[1].has, .int .u8 t.kids[1].ann.op, .string t.kids[1].ann.name, .int .i64 t.kids[1].ann.n, akvx1, kvx1] := hatx1
  refine a_lds 4 tK (fun _ hs j v hv => (hatx1.ext hs).cell j v hv) rfl rfl rfl rfl rfl rfl rfl (by kernel_rfl) (fun _ _ _ h => h) hS ?_
  refine a_p 5 tK rfl rfl rfl rfl (by kernel_rfl) (fun _ _ _ h => h) hS ?_
  refine a_ld 6 tK (fun _ hs => (D_h3.ext hs).cell 1 _ rfl) rfl rfl rfl rfl rfl rfl (by kernel_rfl) (fun _ _ _ h => h) hS ?_
  refine a_one 7 rfl (by kernel_rfl) (o_bs tK rfl rfl rfl rfl rfl rfl rfl (sz1 rfl) rfl rfl rfl ?_)
  intro bw19 w19 qbw19 ew19 hbw19
  have nbw19 := nM_of hlow qbw19
  replace hS := hS.then ew19
  replace hT := hT.then (Stp.ext ew19 hlow hB)
  replace hfr := hfr.ext hlow hB ew19
  replace hm := hm.ext hlow hB ew19
  replace hf := hf.ext hlow hB ew19
  replace hn := hn.ext ew19
  replace ht := Rep.ext ht ew19
  replace ha := Rep.ext ha ew19
  replace hk := hk.ext ew19
  replace h3 := h3.ext ew19
  replace hyx0 := Rep.ext hyx0 ew19
  replace hax0 := Rep.ext hax0 ew19
  replace hkx0 := hkx0.ext ew19
  replace hatx0 := hatx0.ext ew19
  replace hyx1 := Rep.ext hyx1 ew19
  replace hax1 := Rep.ext hax1 ew19
  replace hkx1 := hkx1.ext ew19
  replace hatx1 := hatx1.ext ew19
  replace hlow := hlow.ext ew19
  replace hB := ew19.z hB
  refine ⟨hS, ?_⟩
  have hs : Sl M w19 (.slice (some ⟨bw19, 0, none⟩) 1 1) [t.name] := lit_sl hbw19 nbw19 (show Rs _ _ [_] [t.name] from ⟨⟨rfl, nm⟩, trivial⟩) (by simp)
  obtain ⟨bk, hbk⟩ := hrk _ (List.getElem_mem h1k)
  have hz9 := hkz _ (List.getElem_mem h1k)
  refine a_barS Ext 8 rfl (by kernel_rfl) (by kernel_rfl) (o_call fo59 rfl rfl rfl (within_of t.kids[1] (ih _ (List.getElem_mem h1k)) [t.name] K (downF t.kids[0] x) M _ B _ _ np bm fm bk hbk hyx1 hs hn hm hf hne hlow hB (fun s => by rw [down_same]; exact hbx s) (by simp) (by omega)) ?_)
  rintro _ w20 ⟨rfl, hmw20, hfw20, sw20, kw20⟩
  have frw20 : ∀ x, x < w19.heap.size → ¬ (x = bm ∨ x = fm) → w20.heap[x]? = w19.heap[x]? := fun x hx hn => kw20.blk x ⟨hx, hn⟩
  replace hT := hT.then sw20
  replace hfr := hfr.stp sw20 (fun x hx => frw20 x (hfr.lt x hx).2 hx.2)
  replace hn := hn.stp sw20
  replace ht := Rep.stp ht sw20
  replace ha := Rep.stp ha sw20
  replace hk := hk.stp sw20
  replace h3 := h3.stp sw20
  replace hyx0 := Rep.stp hyx0 sw20
  replace hax0 := Rep.stp hax0 sw20
  replace hkx0 := hkx0.stp sw20
  replace hatx0 := hatx0.stp sw20
  replace hyx1 := Rep.stp hyx1 sw20
  replace hax1 := Rep.stp hax1 sw20
  replace hkx1 := hkx1.stp sw20
  replace hatx1 := hatx1.stp sw20
  replace hs := hs.stp sw20
  replace hlow := sw20.low
  replace hB := sw20.z hB
  replace hS : Ext w20 w20 := ext_refl _
  replace hm := hmw20
  replace hf := hfw20
  clear hmw20 hfw20
  have D_hn := hn
  have D_hk := hk
  have D_h3 := h3
  have D_hkx0 := hkx0
  have D_hatx0 := hatx0
  have D_hkx1 := hkx1
  have D_hatx1 := hatx1
  have D_hs := hs
  refine a_end (by kernel_rfl) ?_
  refine x_blk ?_
  refine x_ret0n rfl ?_
  rw [down_let (by omega) h1k]
  exact ⟨rfl, hm, hf, hT, hfr⟩
 refine q0 (l_p 1 tK rfl ?_)
 refine lC (o_ld tK (h3.cell 9 _ rfl) rfl rfl rfl rfl rfl ?_)
 refine lC (o_len tK hk rfl rfl rfl rfl rfl ?_)
 refine l_p 1 tK rfl (q1 (c_blk ?_))
 refine c_loop (X := Nat) (fun i => [(0, .pointer (some ⟨np, 0, none⟩)), (9, kv), (10, .int .i64 (t.kids.length : Int)), (11, .int .i64 (i : Nat))]) (fun i w' => i ≤ t.kids.length ∧ OM (κ := ByteArray) (fun x : Int => Value.int .i64 x) B M w' bm ((foldD (t.kids.take i) x).1) ∧ OM (κ := ByteArray) (fun x : Bool => Value.bool x) B M w' fm ((foldD (t.kids.take i) x).2) ∧ At M w' np 0 [.map (some bm), .map (some fm)] ∧ Stp B M M w w' ∧ Kept w w' (Out (fun z => z = bm ∨ z = fm) w) ∧ Low M w' ∧ B ≤ w'.heap.size ∧ Sl M w' kv t.kids) (fun i => t.kids.length - i) (0) (s4 rfl rfl rfl rfl) ?_ ?_
 ·exact ⟨Nat.zero_le _, hm, hf, hn, hT, hfr, hlow, hB, hk⟩
 clear hm hf hn hT hfr hlow hB hk ht ha h3
 rintro i w21 ⟨hi, hm, hf, hn, hT, hfr, hlow, hB, hk⟩
 refine q0 (l_p 1 tK rfl (q1 (c_seq ?_)))
 refine c_ifP _ rfl (fun c8 => ?_) (fun c8 => ?_)
 ·refine c_skip (x_seq (c_seq (c_blk (q0 ?_))))
  have hik : i < t.kids.length := by omega
  refine lC (o_ixS tK hk (List.getElem?_eq_getElem hik) rfl rfl rfl rfl rfl rfl rfl rfl rfl ?_)
  intro ebx eox eux hyx hatx
  obtain ⟨akvx, kvx, rfl, opx, nmx, agx, n64x, hax, hkx⟩ := tm_open hyx
  replace hatx : At M w21 ebx eox [.int .u8 t.kids[i].op, .string t.kids[i].name, .string t.kids[i].arg, .int .i64 t.kids[i].n, .bool t.kids[i].has, .int .u8 t.kids[i].ann.op, .string t.kids[i].ann.name, .int .i64 t.kids[i].ann.n, akvx, kvx] := hatx
  refine lC (o_lds tK (fun j v hv => hatx.cell j v hv) rfl rfl rfl rfl rfl rfl ?_)
  refine lC (o_new tK rfl rfl rfl ?_)
  intro b5 w22 qb5 ew22 hb5
  have nb5 := nM_of hlow qb5
  refine lC (o_st tK hb5 rfl rfl rfl rfl (Rep.one hyx) rfl rfl ?_)
  intro w23 h5 uw23 bew23
  have ew23 : Ext w21 w23 := ew22.trans (bew23 _ (Nat.le_of_eq qb5.symm))
  replace hT := hT.then (Stp.ext ew23 hlow hB)
  replace hfr := hfr.ext hlow hB ew23
  replace hm := hm.ext hlow hB ew23
  replace hf := hf.ext hlow hB ew23
  replace hn := hn.ext ew23
  replace hk := hk.ext ew23
  replace hyx := Rep.ext hyx ew23
  replace hax := Rep.ext hax ew23
  replace hkx := hkx.ext ew23
  replace hatx := hatx.ext ew23
  replace hlow := hlow.ext ew23
  replace hB := ew23.z hB
  replace h5 : Box w23 b5 28 [.int .u8 t.kids[i].op, .string t.kids[i].name, .string t.kids[i].arg, .int .i64 t.kids[i].n, .bool t.kids[i].has, .int .u8 t.kids[i].ann.op, .string t.kids[i].ann.name, .int .i64 t.kids[i].ann.n, akvx, kvx] := h5
  replace h5 := h5.at nb5
  refine q1 (c_reg (l_p 1 tK rfl ?_))
  refine lC (o_lds tK (fun j v hv => h5.cell j v hv) rfl rfl rfl rfl rfl rfl ?_)
  obtain ⟨bk, hbk⟩ := hrk _ (List.getElem_mem hik)
  have hz9 := hkz _ (List.getElem_mem hik)
  refine lC (o_call fo34 rfl rfl rfl (ih _ (List.getElem_mem hik) K (foldD (t.kids.take i) x) M _ B _ np bm fm bk hbk hyx hn hm hf hne hlow hB (fun s => by rw [foldD_same]; exact hbx s) (by omega)) ?_)
  rintro _ w24 ⟨rfl, hmw24, hfw24, sw24, kw24⟩
  have frw24 : ∀ x, x < w23.heap.size → ¬ (x = bm ∨ x = fm) → w24.heap[x]? = w23.heap[x]? := fun x hx hn => kw24.blk x ⟨hx, hn⟩
  replace hT := hT.then sw24
  replace hfr := hfr.stp sw24 (fun x hx => frw24 x (hfr.lt x hx).2 hx.2)
  replace hn := hn.stp sw24
  replace hk := hk.stp sw24
  replace hyx := Rep.stp hyx sw24
  replace hax := Rep.stp hax sw24
  replace hkx := hkx.stp sw24
  replace hatx := hatx.stp sw24
  replace h5 := h5.stp sw24
  replace hlow := sw24.low
  replace hB := sw24.z hB
  replace hm := hmw24
  replace hf := hfw24
  clear hmw24 hfw24
  refine q2 (x_seq (c_reg ?_))
  refine lC (o_ai rfl rfl rfl (by omega) rfl rfl ?_)
  refine l_p 1 tK rfl (l_nil ?_)
  exact x_round (i + 1) (s4 rfl rfl rfl (get_num rfl (by omega))) ⟨by omega, by rw [foldD_step hik]; exact hm, by rw [foldD_step hik]; exact hf, hn, hT, hfr, hlow, hB, hk⟩ (by omega)
 refine c_exit (x_seqE (x_seqE (x_blkE (x_blk ?_))))
 refine x_ret0n rfl ?_
 obtain rfl : i = t.kids.length := by omega
 rw [List.take_of_length_le (Nat.le_refl _)] at hm hf
 rw [down_else (by omega)]
 exact ⟨rfl, hm, hf, hT, hfr⟩
end Go.Proofs.YtohfnpmehgpphaaGreat
namespace Rw
open Go Go.RowKit
def strT (x : List UInt8) : ByteArray := ⟨x.toArray⟩
/-- Texts, sorted. -/
def sortB (l : List ByteArray) : List ByteArray := ((l.map (·.data.toList)).mergeSort leB).map strT
theorem strT_data (s : ByteArray) : strT s.data.toList = s := by cases s; simp [strT]
theorem sortB_perm (l : List ByteArray) : (sortB l).Perm l := by
  have h := ((List.mergeSort_perm (l.map (·.data.toList)) leB)).map strT
  rw [List.map_map, show (strT ∘ fun x : ByteArray => x.data.toList) = id from funext strT_data, List.map_id] at h
  exact h
theorem sort_of_perm {ss : List (List UInt8)} {l : List ByteArray} (h : ss.Perm (l.map (·.data.toList))) : (ss.mergeSort leB).map strT = sortB l := by
  rw [sortB, mergeSort_of_perm h]
section
variable {ν : Type} {va : ν → Value} {w : World} {b : Nat} {l : List (ByteArray × ν)} {P : Program} {k : TypeId}
theorem maps_own (hk : P.underlying k = some .string) (hm : MapL va w b l) (hl : l.length ≤ maxLen) (hs : ∀ p ∈ l, p.1.size ≤ maxLen) :
    ∃ D : DataW Unit, w.ownsMap P k (fun _ => some (.nil, [])) b l.length D ∧ Maps.size D = l.length ∧ (strKeys D).Perm (l.map (·.1.data.toList)) := by
  obtain ⟨es, clock, hb, hl2, hborn, hnd⟩ := hm.ex
  have hsz : es.size = l.length := by have := congrArg List.length hl2; simpa using this
  have hkeys : es.toList.map (·.key) = l.map (fun p => Value.string p.1) := by
    have := congrArg (List.map Prod.fst) hl2
    simpa [List.map_map, Function.comp_def, Key.val] using this
  have hkey : ∀ s : ByteArray, s.size ≤ maxLen → keyOf P k (.string s) = some (.string s.data.toList) := by
    intro s hs
    simp [keyOf, hk, mapKey, hs]
  have hrd : ∀ x ∈ es.toList, ∃ s : ByteArray, x.key = .string s ∧ WideElems.rd P k (fun _ => some ((.nil : DataW Unit), [])) x = some (.string s.data.toList, .nil) := by
    intro x hx
    have h1 : x.key ∈ l.map (fun p => Value.string p.1) := by rw [← hkeys]; exact List.mem_map.2 ⟨x, hx, rfl⟩
    obtain ⟨p, hp, he⟩ := List.mem_map.1 h1
    refine ⟨p.1, he.symm, ?_⟩
    unfold WideElems.rd
    rw [← he, hkey _ (hs p hp)]
    rfl
  have hmap : es.toList.map (fun x => strOf (WideElems.rg P k (fun _ => some ((.nil : DataW Unit), [])) x).1) = l.map (·.1.data.toList) := by
    have h2 : es.toList.map (fun x => strOf (WideElems.rg P k (fun _ => some ((.nil : DataW Unit), [])) x).1) = (es.toList.map (·.key)).map (fun v => match v with | .string s => s.data.toList | _ => []) := by
      rw [List.map_map]
      refine List.map_congr_left fun x hx => ?_
      obtain ⟨s, h3, h4⟩ := hrd x hx
      simp [WideElems.rg, h4, h3, strOf]
    rw [h2, hkeys, List.map_map]
    rfl
  refine ⟨.map ((es.toList.map (WideElems.rg P k (fun _ => some ((.nil : DataW Unit), [])))).foldr DataW.insert []), ⟨es, clock, hb, ⟨by omega, ⟨hborn, hnd, ?_⟩, fun x hx => let ⟨s, _, h⟩ := hrd x hx; ⟨_, h⟩⟩, by omega, rfl⟩, ?_, ?_⟩
  · rw [hkeys]
    have := hm.keys
    rw [show l.map (fun p => Value.string p.1) = (l.map (·.1)).map Value.string by rw [List.map_map]; rfl]
    exact (List.pairwise_map.2 (this.imp fun h e => h (by injection e)))
  · rw [Maps.size_eq, length_sorted, List.length_map, Array.length_toList, hsz]
  · show (List.map (fun p : Lit × DataW Unit => strOf p.1) _).Perm _
    rw [← hmap]
    have hins : ∀ L : List (Lit × DataW Unit), (L.foldr DataW.insert []).Perm L := by
      intro L
      induction L with
      | nil => exact .refl _
      | cons x L ih =>
        have h1 : ∀ (x : Lit × DataW Unit) (r : List (Lit × DataW Unit)), (DataW.insert x r).Perm (x :: r) := by
          intro x r
          induction r with
          | nil => exact .refl _
          | cons y r ihr =>
            unfold DataW.insert
            split
            · exact .refl _
            · exact (ihr.cons y).trans (.swap _ _ _)
        exact (h1 _ _).trans (ih.cons x)
    have := (hins (es.toList.map (WideElems.rg P k (fun _ => some ((.nil : DataW Unit), []))))).map (fun p => strOf p.1)
    rwa [List.map_map] at this
end
theorem row_texts {e B : Nat} {M : Nat → Prop} {w : World} {v : Value} {l : List ByteArray} (h : w.ownsRow B e 1 v l.length (l.map fun x => .string x)) (hl : l.length < 140737488355328) (hs : ∀ x ∈ l, x.size < 140737488355328) (hM : ∀ b, M b → b < B) : Sl M w v l := by
  have hR : ∀ l : List ByteArray, (∀ x ∈ l, x.size < 140737488355328) → Rs (fun _ => True) w (l.map fun x => .string x) l := by
    intro l
    induction l with
    | nil => intro _; trivial
    | cons x l ih => intro hs; exact ⟨⟨rfl, hs x List.mem_cons_self⟩, ih fun y hy => hs y (List.mem_cons_of_mem _ hy)⟩
  have hf : flat (l.map fun x => Value.string x) = l.map fun x => .string x := by
    clear h hl hs hR
    unfold flat
    induction l with
    | nil => rfl
    | cons x l ih => rw [List.map_cons, List.flatMap_cons, ih]; rfl
  have h2 : OwnSl e B (fun _ => True) w v l := ⟨⟨_, by rw [hf]; exact h, hR l hs⟩, fun _ _ => trivial⟩
  exact h2.sl hl hM (fun _ _ => trivial)
theorem rep_names (t : Tm) {M : Nat → Prop} {w : World} {v : Value} (h : Rep.R M w v t) : ∀ x ∈ nodesL t, x.name.size < 140737488355328 := by
  have h' : TmR M w t v := h
  clear h
  induction h' with
  | mk b off u hop hs hg hn hann hl hc ha hu hA ih =>
    intro x hx
    rw [nodesL_eq] at hx
    rcases List.mem_cons.1 hx with rfl | hx
    · exact hs
    · obtain ⟨k, hk, hx⟩ := List.mem_flatMap.1 hx
      obtain ⟨i, hi⟩ := List.mem_iff_getElem?.1 hk
      exact ih i k hi x hx
/-- What down makes of the names that are free. -/
def NK (n : Nat) (l : List (ByteArray × Bool)) : Prop := l.length ≤ n ∧ ∀ p ∈ l, p.1.size < 140737488355328
theorem NK.put {n : Nat} {l : List (ByteArray × Bool)} (h : NK n l) {s : ByteArray} (hs : s.size < 140737488355328) : NK (n + 1) (putK l s true) := by
  unfold putK
  split
  · refine ⟨by rw [List.length_set]; have := h.1; omega, fun p hp => ?_⟩
    rcases List.mem_or_eq_of_mem_set hp with hp | rfl
    · exact h.2 p hp
    · exact hs
  · refine ⟨by rw [List.length_append]; have := h.1; simp; omega, fun p hp => ?_⟩
    rcases List.mem_append.1 hp with hp | hp
    · exact h.2 p hp
    · simp at hp; subst hp; exact hs
theorem NK.mono {n m : Nat} {l : List (ByteArray × Bool)} (h : NK n l) (hn : n ≤ m) : NK m l := ⟨Nat.le_trans h.1 hn, h.2⟩
theorem NK.down (t : Tm) : (∀ x ∈ nodesL t, x.name.size < 140737488355328) → ∀ (n : Nat) (x : BF), NK n x.2 → NK (n + nsz t) (downF t x).2 := by
  refine Tm.ind (p := fun t => (∀ x ∈ nodesL t, x.name.size < 140737488355328) → ∀ (n : Nat) (x : BF), NK n x.2 → NK (n + nsz t) (downF t x).2) (fun t ih => ?_) t
  intro hs n x hx
  have hself : t.name.size < 140737488355328 := hs t (by rw [nodesL_eq]; exact List.mem_cons_self)
  have hkid : ∀ k ∈ t.kids, ∀ (n : Nat) (x : BF), NK n x.2 → NK (n + nsz k) (downF k x).2 := fun k hk => ih k hk fun y hy => hs y (by rw [nodesL_eq]; exact List.mem_cons_of_mem _ (List.mem_flatMap.2 ⟨k, hk, hy⟩))
  have hfold : ∀ (l : List Tm), (∀ k ∈ l, k ∈ t.kids) → ∀ (n : Nat) (x : BF), NK n x.2 → NK (n + nszs l) ((l.map downF).foldl (fun x g => g x) x).2 := by
    intro l
    induction l with
    | nil => intro _ n x h; exact h
    | cons k l ihl =>
      intro hk n x h
      rw [List.map_cons, List.foldl_cons, nszs_cons, ← Nat.add_assoc]
      exact ihl (fun y hy => hk y (List.mem_cons_of_mem _ hy)) _ _ (hkid k (hk k List.mem_cons_self) n x h)
  have hnz := nsz_eq t
  have hwith : ∀ (g : BF → BF) (ss : List ByteArray) (x : BF) (n m : Nat), (∀ x : BF, NK n x.2 → NK m (g x).2) → NK n x.2 → NK m (withF g ss x).2 := fun g ss x n m hg h => hg _ h
  have hhead : ∀ (n : Nat) (x : BF), NK n x.2 → NK (n + nszs t.kids) ((t.kids.map downF).headD id x).2 := by
    intro n x h
    cases hk : t.kids with
    | nil => exact h
    | cons k l => rw [nszs_cons]; exact (hkid k (by rw [hk]; exact List.mem_cons_self) n x h).mono (by omega)
  rw [downF_eq]
  unfold downK
  split
  · split
    · exact (hx.put hself).mono (by omega)
    · exact hx.mono (by omega)
  · split
    · exact (hwith _ _ _ n (n + nszs t.kids) (hhead n) hx).mono (by omega)
    · split
      · exact (hwith _ _ _ n (n + nszs t.kids) (hhead n) hx).mono (by omega)
      · split
        · cases hk : t.kids with
          | nil => exact hx.mono (by omega)
          | cons k l =>
            cases hl : l with
            | nil => 
              rw [hk, hl, nszs_cons, nszs_nil] at hnz
              exact (hkid k (by rw [hk]; exact List.mem_cons_self) n x hx).mono (by omega)
            | cons k2 l2 =>
              rw [hk, hl, nszs_cons, nszs_cons] at hnz
              have h1 := hkid k (by rw [hk]; exact List.mem_cons_self) n x hx
              exact (hwith (downF k2) [t.name] (downF k x) _ _ (fun x => hkid k2 (by rw [hk, hl]; simp) _ x) h1).mono (by omega)
        · exact (hfold t.kids (fun k h => h) n x hx).mono (by omega)
/-- The names that are free, sorted. -/
def freeS (t : Tm) : List ByteArray := sortB ((downF t ([], [])).2.map (·.1))
end Rw
namespace Go.Proofs
open Go.RowKit Go.Maps Go.Sort Go.Shelf
set_option maxRecDepth 100000
def Tryz.keys36_ren : Go.Shelf.Ren := ⟨fun | 7 => 36 | 10 => 62 | n => n, fun | 23 => 50 | 26 => 9 | 3 => 4 | 28 => 56 | 0 => 0 | 27 => 55 | 33 => 65 | 4 => 4 | n => n, fun | n => n⟩
theorem Tryz.keys36 : Go.Proofs.SlLaysZ.n7 Tryz.prog Tryz.keys36_ren := {
  mixed := by kernel_rfl
  f7 := ⟨Tryz.f36.name, by decide, Tryz.func36.trans (congrArg some (by kernel_rfl))⟩
  f10 := ⟨Tryz.f62.name, by decide, Tryz.func62.trans (congrArg some (by kernel_rfl))⟩
  t0 := Tryz.underlying0
  a0 := Tryz.isAgg0
  z0 := Tryz.sizeOf0
  v0 := Tryz.zeroValue0
  t4 := Tryz.underlying4
  a4 := Tryz.isAgg4
  z4 := Tryz.sizeOf4
  v4 := Tryz.zeroValue4
  t23 := Tryz.underlying50
  a23 := Tryz.isAgg50
  z23 := Tryz.sizeOf50
  v23 := Tryz.zeroValue50
  t26 := Tryz.underlying9
  a26 := Tryz.isAgg9
  z26 := Tryz.sizeOf9
  v26 := Tryz.zeroValue9
  t27 := Tryz.underlying55
  a27 := Tryz.isAgg55
  z27 := Tryz.sizeOf55
  v27 := Tryz.zeroValue55
  t28 := Tryz.underlying56
  a28 := Tryz.isAgg56
  z28 := Tryz.sizeOf56
  v28 := Tryz.zeroValue56
  t33 := Tryz.underlying65
  a33 := Tryz.isAgg65
  z33 := Tryz.sizeOf65
  v33 := Tryz.zeroValue65 }
def Tryz.sorted35_ren : Go.Shelf.Ren := ⟨fun | 6 => 35 | 8 => 60 | 9 => 61 | 11 => 80 | 13 => 82 | 12 => 81 | 23 => 106 | 24 => 107 | 14 => 97 | 15 => 98 | 16 => 99 | 17 => 100 | 18 => 101 | 19 => 102 | 20 => 103 | 21 => 104 | 22 => 105 | 25 => 117 | 26 => 118 | 27 => 119 | 28 => 120 | 29 => 121 | 30 => 122 | 31 => 126 | n => n, fun | 26 => 9 | 28 => 56 | 24 => 39 | 0 => 0 | 3 => 3 | 37 => 90 | 48 => 112 | 50 => 114 | 4 => 4 | 40 => 104 | 39 => 103 | 45 => 109 | 5 => 5 | 9 => 9 | 51 => 123 | 55 => 46 | 57 => 131 | 58 => 132 | 33 => 65 | n => n, fun | n => n⟩
theorem Tryz.sorted35 : Go.Proofs.SlLaysZ.n6 Tryz.prog Tryz.sorted35_ren := {
  mixed := by kernel_rfl
  f6 := ⟨Tryz.f35.name, by decide, Tryz.func35.trans (congrArg some (by kernel_rfl))⟩
  f8 := ⟨Tryz.f60.name, by decide, Tryz.func60.trans (congrArg some (by kernel_rfl))⟩
  f11 := ⟨Tryz.f80.name, by decide, Tryz.func80.trans (congrArg some (by kernel_rfl))⟩
  t0 := Tryz.underlying0
  a0 := Tryz.isAgg0
  z0 := Tryz.sizeOf0
  v0 := Tryz.zeroValue0
  t24 := Tryz.underlying39
  a24 := Tryz.isAgg39
  z24 := Tryz.sizeOf39
  v24 := Tryz.zeroValue39
  t26 := Tryz.underlying9
  a26 := Tryz.isAgg9
  z26 := Tryz.sizeOf9
  v26 := Tryz.zeroValue9
  t28 := Tryz.underlying56
  a28 := Tryz.isAgg56
  z28 := Tryz.sizeOf56
  v28 := Tryz.zeroValue56
  i26 := by kernel_rfl }
def Tryz.sort61_ren : Go.Shelf.Ren := ⟨fun | 6 => 61 | 8 => 82 | 9 => 81 | 19 => 106 | 20 => 107 | 21 => 97 | 22 => 98 | 23 => 99 | 24 => 100 | 25 => 101 | 26 => 102 | 27 => 103 | 28 => 104 | 29 => 105 | 36 => 117 | 31 => 118 | 32 => 119 | 37 => 120 | 38 => 121 | 39 => 122 | 41 => 126 | n => n, fun | 27 => 39 | 29 => 9 | 3 => 3 | 32 => 90 | 26 => 39 | 0 => 0 | 44 => 112 | 46 => 114 | 4 => 4 | 36 => 104 | 35 => 103 | 41 => 109 | 5 => 5 | 9 => 9 | 53 => 123 | 57 => 46 | 63 => 131 | 64 => 132 | n => n, fun | n => n⟩
theorem Tryz.sort61 : Go.Proofs.SlLaysM.n6 Tryz.prog Tryz.sort61_ren := {
  mixed := by kernel_rfl
  f6 := ⟨Tryz.f61.name, by decide, Tryz.func61.trans (congrArg some (by kernel_rfl))⟩
  f8 := Tryz.func82.trans (congrArg some (by kernel_rfl))
  f9 := ⟨Tryz.f81.name, by decide, Tryz.func81.trans (congrArg some (by kernel_rfl))⟩
  f19 := Tryz.func106.trans (congrArg some (by kernel_rfl))
  f20 := Tryz.func107.trans (congrArg some (by kernel_rfl))
  f21 := ⟨Tryz.f97.name, by decide, Tryz.func97.trans (congrArg some (by kernel_rfl))⟩
  f22 := ⟨Tryz.f98.name, by decide, Tryz.func98.trans (congrArg some (by kernel_rfl))⟩
  f23 := ⟨Tryz.f99.name, by decide, Tryz.func99.trans (congrArg some (by kernel_rfl))⟩
  f24 := ⟨Tryz.f100.name, by decide, Tryz.func100.trans (congrArg some (by kernel_rfl))⟩
  f25 := ⟨Tryz.f101.name, by decide, Tryz.func101.trans (congrArg some (by kernel_rfl))⟩
  f26 := ⟨Tryz.f102.name, by decide, Tryz.func102.trans (congrArg some (by kernel_rfl))⟩
  f27 := ⟨Tryz.f103.name, by decide, Tryz.func103.trans (congrArg some (by kernel_rfl))⟩
  f28 := ⟨Tryz.f104.name, by decide, Tryz.func104.trans (congrArg some (by kernel_rfl))⟩
  f29 := ⟨Tryz.f105.name, by decide, Tryz.func105.trans (congrArg some (by kernel_rfl))⟩
  f31 := Tryz.func118.trans (congrArg some (by kernel_rfl))
  f32 := Tryz.func119.trans (congrArg some (by kernel_rfl))
  f36 := ⟨Tryz.f117.name, by decide, Tryz.func117.trans (congrArg some (by kernel_rfl))⟩
  f37 := ⟨Tryz.f120.name, by decide, Tryz.func120.trans (congrArg some (by kernel_rfl))⟩
  f38 := ⟨Tryz.f121.name, by decide, Tryz.func121.trans (congrArg some (by kernel_rfl))⟩
  f39 := ⟨Tryz.f122.name, by decide, Tryz.func122.trans (congrArg some (by kernel_rfl))⟩
  f41 := ⟨Tryz.f126.name, by decide, Tryz.func126.trans (congrArg some (by kernel_rfl))⟩
  t0 := Tryz.underlying0
  a0 := Tryz.isAgg0
  z0 := Tryz.sizeOf0
  v0 := Tryz.zeroValue0
  t3 := Tryz.underlying3
  a3 := Tryz.isAgg3
  z3 := Tryz.sizeOf3
  v3 := Tryz.zeroValue3
  t4 := Tryz.underlying4
  a4 := Tryz.isAgg4
  z4 := Tryz.sizeOf4
  v4 := Tryz.zeroValue4
  t5 := Tryz.underlying5
  a5 := Tryz.isAgg5
  z5 := Tryz.sizeOf5
  v5 := Tryz.zeroValue5
  t9 := Tryz.underlying9
  a9 := Tryz.isAgg9
  z9 := Tryz.sizeOf9
  v9 := Tryz.zeroValue9
  t26 := Tryz.underlying39
  a26 := Tryz.isAgg39
  z26 := Tryz.sizeOf39
  v26 := Tryz.zeroValue39
  t27 := Tryz.underlying39
  a27 := Tryz.isAgg39
  z27 := Tryz.sizeOf39
  v27 := Tryz.zeroValue39
  t29 := Tryz.underlying9
  a29 := Tryz.isAgg9
  z29 := Tryz.sizeOf9
  v29 := Tryz.zeroValue9
  t32 := Tryz.underlying90
  a32 := Tryz.isAgg90
  z32 := Tryz.sizeOf90
  v32 := Tryz.zeroValue90
  t35 := Tryz.underlying103
  a35 := Tryz.isAgg103
  z35 := Tryz.sizeOf103
  v35 := Tryz.zeroValue103
  t36 := Tryz.underlying104
  a36 := Tryz.isAgg104
  z36 := Tryz.sizeOf104
  v36 := Tryz.zeroValue104
  t41 := Tryz.underlying109
  a41 := Tryz.isAgg109
  z41 := Tryz.sizeOf109
  v41 := Tryz.zeroValue109
  t44 := Tryz.underlying112
  a44 := Tryz.isAgg112
  z44 := Tryz.sizeOf112
  v44 := Tryz.zeroValue112
  t46 := Tryz.underlying114
  a46 := Tryz.isAgg114
  z46 := Tryz.sizeOf114
  v46 := Tryz.zeroValue114
  t53 := Tryz.underlying123
  a53 := Tryz.isAgg123
  z53 := Tryz.sizeOf123
  v53 := Tryz.zeroValue123
  t57 := Tryz.underlying46
  a57 := Tryz.isAgg46
  z57 := Tryz.sizeOf46
  v57 := Tryz.zeroValue46
  t63 := Tryz.underlying131
  a63 := Tryz.isAgg131
  z63 := Tryz.sizeOf131
  v63 := Tryz.zeroValue131
  t64 := Tryz.underlying132
  a64 := Tryz.isAgg132
  z64 := Tryz.sizeOf132
  v64 := Tryz.zeroValue132 }
theorem Tryz.sorts35 (m : Nat) : AnyZ.SortsIn Tryz.prog Tryz.sorted35_ren Fence.wide m :=
  ⟨fun blk off cap ss W hH hblk hsz => callsIn_wide.2 (AnyM.slices_Sort_string Tryz.sort61 blk off cap ss W hH hblk hsz),
   fun p cap W => callsIn_wide.2 (AnyM.slices_Sort_string_none Tryz.sort61 p cap W)⟩
theorem Tryz.maps_Keys_36 (mb : Option Nat) (W : World) : CallsIn Fence.wide 5 Tryz.prog 36 #[.map mb] W fun e w' => e = .returned (.func (.func 62) #[] #[.pointer (some ⟨W.heap.size, 0, none⟩)]) ∧ w' = W.alloc (.cells #[.map mb] 50) :=
  AnyZ.keys_in Tryz.keys36 Fence.wide 5 trivial rfl mb W
theorem Tryz.slices_Sorted_keys_35_36 {H : Type} (b nn : Nat) (D0 : DataW H) (R : Value → Option (DataW H × List MemPlace)) (w : World) (hown : w.ownsMap Tryz.prog 9 R b nn D0) (hmax : Maps.size D0 ≤ maxLen) (hbytes : Maps.size D0 * 16 ≤ 140737488355328) :
    CallsIn Fence.wide 5 Tryz.prog 35 #[.func (.func 62) #[] #[.pointer (some ⟨w.heap.size, 0, none⟩)]] (w.alloc (.cells #[.map (some b)] 50)) fun e w' => ∃ (v : Value) (ss : List (List UInt8)), e = .returned v ∧ ss.Perm (strKeys D0) ∧
      w'.ownsRow (w.alloc (.cells #[.map (some b)] 50)).heap.size 9 1 v ss.length ((ss.mergeSort (fun x y => decide (x ≤ y))).map encStr) ∧ (v = .slice none 0 0 ↔ ss = []) ∧ Below (w.alloc (.cells #[.map (some b)] 50)).heap.size (w.alloc (.cells #[.map (some b)] 50)) w' := by
  have hbl := hown.lt
  have hseq : SeqGives Fence.wide 2 Tryz.prog 62 #[.pointer (some ⟨w.heap.size, 0, none⟩)] encStr (fun ss => ss.Perm (strKeys D0)) (Maps.size D0) (w.alloc (.cells #[.map (some b)] 50)) :=
    AnyZ.keys_gives (ρ := Tryz.keys36_ren) { Tryz.keys36 with } Fence.wide _ trivial rfl (by omega) w.heap.size b nn D0 _ (by simp) (by simp) (by
      obtain ⟨es, clock, hb, Ft, hs, hD⟩ := hown
      exact ⟨es, clock, (Below.heap_alloc _ _ b hbl).trans hb, Ft, hs, hD⟩)
  exact AnyZ.sorted_in Tryz.sorted35 Fence.wide 5 trivial trivial trivial trivial rfl (by omega) (Tryz.sorts35 _) (enters_of Tryz.func61 (by kernel_rfl) rfl) 62 #[.pointer (some ⟨w.heap.size, 0, none⟩)] trivial (enters_of Tryz.func62 (by kernel_rfl) rfl) _ _ hmax hbytes _ hseq
end Go.Proofs
namespace Go.Proofs.YtohfnpmehgpphaaGreat
open Go Rw Go.RowKit
set_option maxRecDepth 100000
end Go.Proofs.YtohfnpmehgpphaaGreat
namespace Go.Proofs.YtohfnpmehgpphaaGreat
open Go Rw Go.RowKit
set_option maxRecDepth 100000
theorem at_spec (M : Nat → Prop) (w : World) (v : Value) (l : List Int) (n : Int) (hl : Sl M w v l) :
  Calls Tryz.prog 92 #[v, .int .i64 n] w (Ret fun r w' => r = .int .i64 (atOf l n) ∧ w = w') := by
 have hlt := hl.lt
 refine c_enter (n := 19) Tryz.func92 rfl rfl rfl ?_
 refine q0 (l_p 1 tK rfl (q1 (c_seq (q0 (l_p 1 tK rfl (q1 (c_blk ?_)))))))
 refine c_loop (X := Nat) (fun x => [(0, v), (1, .int .i64 n), (5, .int .i64 (x : Nat))]) (fun x w' => w = w' ∧ x ≤ l.length ∧ ∀ j, j < x → l[j]? ≠ some n) (fun x => l.length - x) (0) (s3 rfl rfl rfl) ?_ ?_
 ·exact ⟨rfl, Nat.zero_le _, fun j hj => absurd hj (Nat.not_lt_zero _)⟩
 rintro k _ ⟨rfl, hk, hno⟩
 refine c_seq (q0 (l_p 2 tK rfl ?_))
 refine lC (o_len tK hl rfl rfl rfl rfl rfl ?_)
 refine l_p 1 tK rfl (q1 ?_)
 refine c_ifP _ rfl (fun h => ?_) (fun h => ?_)
 ·have hkl : k < l.length := by omega
  refine c_skip (x_seq (c_seq (c_blk (q0 (l_p 2 tK rfl ?_)))))
  refine lC (o_ixS tK hl (List.getElem?_eq_getElem hkl) rfl rfl rfl rfl rfl rfl rfl rfl rfl ?_)
  intro b o u hr hat
  obtain ⟨rfl, hb⟩ := hr
  refine lC (o_ld tK (hat.cell 0 _ rfl) rfl rfl rfl rfl rfl ?_)
  refine l_p 2 tK rfl (q1 ?_)
  refine c_ifP _ rfl (fun h2 => ?_) (fun h2 => ?_)
  ·refine q0 (l_p 2 tK rfl (q1 (c_ret (x_blkR (x_seqR (x_seqR (x_blkR (x_seqR (x_ret1 rfl rfl ?_)))))))))
   exact ⟨by rw [atOf_found hkl h2 hno], rfl⟩
  refine c_skip (x_blk (x_seq (c_reg (l_p 1 tK rfl ?_))))
  refine lC (o_ai rfl rfl rfl (by omega) rfl rfl ?_)
  refine l_p 1 tK rfl (l_nil ?_)
  exact x_round (k + 1) (s3 rfl rfl rfl) ⟨rfl, by omega, step_no hno hkl h2⟩ (by omega)
 refine c_exit (x_seqE (x_seqE (x_blkE (x_seq (q0 (l_p 1 tK rfl (q1 (c_ret (x_ret1 rfl rfl ?_)))))))))
 exact ⟨by rw [atOf_none (by omega) hno], rfl⟩
theorem in_spec (M : Nat → Prop) (w : World) (v : Value) (l : List Int) (n : Int) (hl : Sl M w v l) :
  Calls Tryz.prog 75 #[v, .int .i64 n] w (Ret fun r w' => r = .bool (decide (n ∈ l)) ∧ w = w') := by
 refine c_enter (n := 9) Tryz.func75 rfl rfl rfl ?_
 refine q0 (l_p 1 tK rfl (q1 (q0 (l_p 2 tK rfl ?_))))
 refine lC (o_call fo92 rfl rfl rfl (at_spec M _ _ l n hl) ?_)
 rintro _ _ ⟨rfl, rfl⟩
 refine l_p 2 tK rfl (q1 (c_ret (x_ret1 rfl rfl ?_)))
 exact ⟨by rw [inOf_at], rfl⟩
theorem refVars_spec (t : Ty) (c : UInt8) (M : Nat → Prop) (w : World) (v : Value) (hsh : shapeF t c = true) (ht : Rep.R M w v t) (hlow0 : Low M w) (hz : psz t ≤ 2000000) :
  Calls Tryz.prog 53 #[v] w (Ret fun r w' => Sl M w' r (varsF t) ∧ Ext w w') := by
 have hlow := hlow0
 have hB : w.heap.size ≤ w.heap.size := Nat.le_refl _
 have hE : Below w.heap.size w w := Below.refl _ _
 have hsub : ∀ b, M b → M b := fun _ h => h
 obtain ⟨kv, rfl, op, nm, n64, hk⟩ := ty_open ht
 have hpc := psz_canon _ t (Nat.le_refl _)
 have hpl : (partsL (canonF t)).length = psz (canonF t) := rfl
 refine c_enter (n := 48) Tryz.func53 rfl rfl rfl ?_
 refine q0 ?_
 refine lC (o_box rfl rfl rfl ?_)
 intro b1 w1 hb_b1 ew1 h1
 replace h1 : Box _ b1 25 [.int .u8 t.op, .string t.name, .int .i64 t.n, kv] := h1
 replace h1 := h1.at (nM_of hlow hb_b1)
 replace hE := ew1.bl hE hB
 replace ht := Rep.ext ht ew1
 replace hk := hk.ext ew1
 replace hlow := hlow.ext ew1
 replace hB := ew1.z hB
 refine l_p 1 tK rfl (q1 (q0 (l_p 1 tK rfl (q1 (q0 ?_)))))
 refine lC (o_lds tK (fun j v hv => h1.cell j v hv) rfl rfl rfl rfl rfl rfl ?_)
 refine lC (o_call fo32 rfl rfl rfl (refCanon_all _ t c _ _ _ (Nat.le_refl _) hsh ht hlow hz) ?_)
 rintro vc w2 ⟨hc, ew2⟩
 replace hE := ew2.bl hE hB
 replace ht := Rep.ext ht ew2
 replace hk := hk.ext ew2
 replace h1 := h1.ext ew2
 replace hlow := hlow.ext ew2
 replace hB := ew2.z hB
 refine lC (o_call fo25 rfl rfl rfl (parts_spec (canonF t) _ _ _ hc hlow (by omega)) ?_)
 rintro vhp w3 ⟨hp, ew3⟩
 replace hE := ew3.bl hE hB
 replace ht := Rep.ext ht ew3
 replace hk := hk.ext ew3
 replace h1 := h1.ext ew3
 replace hc := Rep.ext hc ew3
 replace hlow := hlow.ext ew3
 replace hB := ew3.z hB
 refine l_p 1 tK rfl (q1 (c_seq (q0 (l_p 1 tK rfl (q1 (c_blk ?_))))))
 refine c_loop3 (X := Nat) (Y := Value) (Z := Nat → Prop) (fun i v M1 => [(3, v), (4, vhp), (5, .int .i64 (i : Nat))]) (fun i v M1 w' => i ≤ (partsL (canonF t)).length ∧ OwnSl 3 w.heap.size M1 w' v (varsTo [] ((partsL (canonF t)).take i)) ∧ Sl M1 w' vhp (partsL (canonF t)) ∧ Low M1 w' ∧ (∀ b, M b → M1 b) ∧ Below w.heap.size w w' ∧ w.heap.size ≤ w'.heap.size) (fun i v M1 => (partsL (canonF t)).length - i) (0) (.slice none 0 0) (M) (s3 rfl rfl rfl) ?_ ?_
 ·exact ⟨Nat.zero_le _, own_nil, hp, hlow, hsub, hE, hB⟩
 rintro i v M1 w4 ⟨hi, ho, hp, hlow, hsub, hE, hB⟩
 have hvl := varsTo_len [] ((partsL (canonF t)).take i)
 rw [List.length_nil, List.length_take] at hvl
 refine c_seq (q0 (l_p 2 tK rfl ?_))
 refine lC (o_len tK hp rfl rfl rfl rfl rfl ?_)
 refine l_p 1 tK rfl (q1 ?_)
 refine c_ifP _ rfl (fun c1 => ?_) (fun c1 => ?_)
 ·refine c_skip (x_seq (c_seq (c_blk (q0 (l_p 2 tK rfl ?_)))))
  have hik : i < (partsL (canonF t)).length := by omega
  refine lC (o_ixS tK hp (List.getElem?_eq_getElem hik) rfl rfl rfl rfl rfl rfl rfl rfl rfl ?_)
  intro ebx0 eox0 eux0 hyx0 hatx0
  obtain ⟨kvx0, rfl, opx0, nmx0, n64x0, hkx0⟩ := ty_open hyx0
  replace hatx0 : At M1 w4 ebx0 eox0 [.int .u8 (partsL (canonF t))[i].op, .string (partsL (canonF t))[i].name, .int .i64 (partsL (canonF t))[i].n, kvx0] := hatx0
  refine l_p 1 tK rfl ?_
  refine lC (o_ld tK (hatx0.cell 0 _ rfl) rfl rfl rfl rfl rfl ?_)
  refine l_p 2 tK rfl ?_
  refine l_splitP 21 _ rfl (fun c2 => ?_) (fun c2 => ?_)
  ·refine l_p 11 tK rfl ?_
   refine lC (o_ixS tK hp (List.getElem?_eq_getElem hik) rfl rfl rfl rfl rfl rfl rfl rfl rfl ?_)
   intro ebx1 eox1 eux1 hyx1 hatx1
   obtain ⟨kvx1, rfl, opx1, nmx1, n64x1, hkx1⟩ := ty_open hyx1
   replace hatx1 : At M1 w4 ebx1 eox1 [.int .u8 (partsL (canonF t))[i].op, .string (partsL (canonF t))[i].name, .int .i64 (partsL (canonF t))[i].n, kvx1] := hatx1
   refine l_p 1 tK rfl ?_
   refine lC (o_ld tK (hatx1.cell 2 _ rfl) rfl rfl rfl rfl rfl ?_)
   have hos : Sl NoM w4 v (varsTo [] ((partsL (canonF t)).take i)) := ho.sl (by omega) (fun _ h => h.elim) (fun _ h => h.elim)
   refine lC (o_call fo75 rfl rfl rfl (in_spec NoM _ _ _ _ hos) ?_)
   rintro _ _ ⟨rfl, rfl⟩
   refine l_p 2 tK rfl (q1 ?_)
   refine c_ifN _ rfl (fun c3 => ?_) (fun c3 => ?_)
   ·refine c_reg (l_p 3 tK rfl ?_)
    refine lC (o_ixS tK hp (List.getElem?_eq_getElem hik) rfl rfl rfl rfl rfl rfl rfl rfl rfl ?_)
    intro ebx2 eox2 eux2 hyx2 hatx2
    obtain ⟨kvx2, rfl, opx2, nmx2, n64x2, hkx2⟩ := ty_open hyx2
    replace hatx2 : At M1 w4 ebx2 eox2 [.int .u8 (partsL (canonF t))[i].op, .string (partsL (canonF t))[i].name, .int .i64 (partsL (canonF t))[i].n, kvx2] := hatx2
    refine l_p 1 tK rfl ?_
    refine lC (o_ld tK (hatx2.cell 2 _ rfl) rfl rfl rfl rfl rfl ?_)
    refine lC (o_bs tK rfl rfl rfl rfl rfl rfl rfl (sz1 rfl) rfl rfl rfl ?_)
    intro bw5 w5 qbw5 ew5 hbw5
    have nbw5 := nM_of hlow qbw5
    replace ho := ho.ext hlow hB ew5
    replace hE := ew5.bl hE hB
    replace hp := hp.ext ew5
    replace hyx0 := Rep.ext hyx0 ew5
    replace hkx0 := hkx0.ext ew5
    replace hatx0 := hatx0.ext ew5
    replace hyx1 := Rep.ext hyx1 ew5
    replace hkx1 := hkx1.ext ew5
    replace hatx1 := hatx1.ext ew5
    replace hyx2 := Rep.ext hyx2 ew5
    replace hkx2 := hkx2.ext ew5
    replace hatx2 := hatx2.ext ew5
    replace hlow := hlow.ext ew5
    replace hB := ew5.z hB
    refine lC (o_app1 tK ho hbw5 nbw5 ⟨rfl, n64x2⟩ hlow hB rfl rfl rfl rfl rfl rfl rfl (by omega) (by show (_ + _) * 8 ≤ _; omega) rfl rfl ?_)
    intro vw6 w6 Mw6 hw6 sw6 frw6 blw6
    replace hE := hE.trans sw6.below
    replace hp := hp.stp sw6
    replace hyx0 := Rep.stp hyx0 sw6
    replace hkx0 := hkx0.stp sw6
    replace hatx0 := hatx0.stp sw6
    replace hyx1 := Rep.stp hyx1 sw6
    replace hkx1 := hkx1.stp sw6
    replace hatx1 := hatx1.stp sw6
    replace hyx2 := Rep.stp hyx2 sw6
    replace hkx2 := hkx2.stp sw6
    replace hatx2 := hatx2.stp sw6
    replace hsub := sw6.sb hsub
    replace hlow := sw6.low
    replace hB := sw6.z hB
    replace ho := hw6
    clear hw6
    refine l_p 1 tK rfl (q2 (x_seq (c_reg (l_p 1 tK rfl ?_))))
    refine lC (o_ai rfl rfl rfl (by omega) rfl rfl ?_)
    refine l_p 1 tK rfl (l_nil ?_)
    have htk : (partsL (canonF t)).take (i + 1) = (partsL (canonF t)).take i ++ [(partsL (canonF t))[i]] := List.take_succ_eq_append_getElem hik
    have hnb : numB (partsL (canonF t))[i].op = true := by unfold numB; simp [*]
    have hni : (partsL (canonF t))[i].n ∉ varsTo [] ((partsL (canonF t)).take i) := by assumption
    exact x_round3 (i + 1) (vw6) (Mw6) (s3 rfl rfl (get_num rfl (by omega))) ⟨by omega, by rw [htk, varsTo_yes hnb hni]; exact ho, hp, hlow, hsub, hE, hB⟩ (by omega)
   refine c_skip (x_blk (x_seq (c_reg (l_p 1 tK rfl ?_))))
   refine lC (o_ai rfl rfl rfl (by omega) rfl rfl ?_)
   refine l_p 1 tK rfl (l_nil ?_)
   have htk : (partsL (canonF t)).take (i + 1) = (partsL (canonF t)).take i ++ [(partsL (canonF t))[i]] := List.take_succ_eq_append_getElem hik
   have hst : varsTo [] ((partsL (canonF t)).take (i + 1)) = varsTo [] ((partsL (canonF t)).take i) := by
    rw [htk]
    cases hnb : numB (partsL (canonF t))[i].op with
    | false => exact varsTo_no hnb
    | true =>
     refine varsTo_old ?_
     unfold numB at hnb
     simp_all
   exact x_round3 (i + 1) (v) (M1) (s3 rfl rfl (get_num rfl (by omega))) ⟨by omega, by rw [hst]; exact ho, hp, hlow, hsub, hE, hB⟩ (by omega)
  refine l_p 2 tK rfl ?_
  refine lC (o_ixS tK hp (List.getElem?_eq_getElem hik) rfl rfl rfl rfl rfl rfl rfl rfl rfl ?_)
  intro ebx1 eox1 eux1 hyx1 hatx1
  obtain ⟨kvx1, rfl, opx1, nmx1, n64x1, hkx1⟩ := ty_open hyx1
  replace hatx1 : At M1 w4 ebx1 eox1 [.int .u8 (partsL (canonF t))[i].op, .string (partsL (canonF t))[i].name, .int .i64 (partsL (canonF t))[i].n, kvx1] := hatx1
  refine l_p 1 tK rfl ?_
  refine lC (o_ld tK (hatx1.cell 0 _ rfl) rfl rfl rfl rfl rfl ?_)
  refine l_p 3 tK rfl ?_
  refine l_splitP 29 _ rfl (fun c4 => ?_) (fun c4 => ?_)
  ·refine l_p 3 tK rfl ?_
   refine lC (o_ixS tK hp (List.getElem?_eq_getElem hik) rfl rfl rfl rfl rfl rfl rfl rfl rfl ?_)
   intro ebx2 eox2 eux2 hyx2 hatx2
   obtain ⟨kvx2, rfl, opx2, nmx2, n64x2, hkx2⟩ := ty_open hyx2
   replace hatx2 : At M1 w4 ebx2 eox2 [.int .u8 (partsL (canonF t))[i].op, .string (partsL (canonF t))[i].name, .int .i64 (partsL (canonF t))[i].n, kvx2] := hatx2
   refine l_p 1 tK rfl ?_
   refine lC (o_ld tK (hatx2.cell 2 _ rfl) rfl rfl rfl rfl rfl ?_)
   have hos : Sl NoM w4 v (varsTo [] ((partsL (canonF t)).take i)) := ho.sl (by omega) (fun _ h => h.elim) (fun _ h => h.elim)
   refine lC (o_call fo75 rfl rfl rfl (in_spec NoM _ _ _ _ hos) ?_)
   rintro _ _ ⟨rfl, rfl⟩
   refine l_p 2 tK rfl (q1 ?_)
   refine c_ifN _ rfl (fun c5 => ?_) (fun c5 => ?_)
   ·refine c_reg (l_p 3 tK rfl ?_)
    refine lC (o_ixS tK hp (List.getElem?_eq_getElem hik) rfl rfl rfl rfl rfl rfl rfl rfl rfl ?_)
    intro ebx3 eox3 eux3 hyx3 hatx3
    obtain ⟨kvx3, rfl, opx3, nmx3, n64x3, hkx3⟩ := ty_open hyx3
    replace hatx3 : At M1 w4 ebx3 eox3 [.int .u8 (partsL (canonF t))[i].op, .string (partsL (canonF t))[i].name, .int .i64 (partsL (canonF t))[i].n, kvx3] := hatx3
    refine l_p 1 tK rfl ?_
    refine lC (o_ld tK (hatx3.cell 2 _ rfl) rfl rfl rfl rfl rfl ?_)
    refine lC (o_bs tK rfl rfl rfl rfl rfl rfl rfl (sz1 rfl) rfl rfl rfl ?_)
    intro bw7 w7 qbw7 ew7 hbw7
    have nbw7 := nM_of hlow qbw7
    replace ho := ho.ext hlow hB ew7
    replace hE := ew7.bl hE hB
    replace hp := hp.ext ew7
    replace hyx0 := Rep.ext hyx0 ew7
    replace hkx0 := hkx0.ext ew7
    replace hatx0 := hatx0.ext ew7
    replace hyx1 := Rep.ext hyx1 ew7
    replace hkx1 := hkx1.ext ew7
    replace hatx1 := hatx1.ext ew7
    replace hyx2 := Rep.ext hyx2 ew7
    replace hkx2 := hkx2.ext ew7
    replace hatx2 := hatx2.ext ew7
    replace hyx3 := Rep.ext hyx3 ew7
    replace hkx3 := hkx3.ext ew7
    replace hatx3 := hatx3.ext ew7
    replace hlow := hlow.ext ew7
    replace hB := ew7.z hB
    refine lC (o_app1 tK ho hbw7 nbw7 ⟨rfl, n64x3⟩ hlow hB rfl rfl rfl rfl rfl rfl rfl (by omega) (by show (_ + _) * 8 ≤ _; omega) rfl rfl ?_)
    intro vw8 w8 Mw8 hw8 sw8 frw8 blw8
    replace hE := hE.trans sw8.below
    replace hp := hp.stp sw8
    replace hyx0 := Rep.stp hyx0 sw8
    replace hkx0 := hkx0.stp sw8
    replace hatx0 := hatx0.stp sw8
    replace hyx1 := Rep.stp hyx1 sw8
    replace hkx1 := hkx1.stp sw8
    replace hatx1 := hatx1.stp sw8
    replace hyx2 := Rep.stp hyx2 sw8
    replace hkx2 := hkx2.stp sw8
    replace hatx2 := hatx2.stp sw8
    replace hyx3 := Rep.stp hyx3 sw8
    replace hkx3 := hkx3.stp sw8
    replace hatx3 := hatx3.stp sw8
    replace hsub := sw8.sb hsub
    replace hlow := sw8.low
    replace hB := sw8.z hB
    replace ho := hw8
    clear hw8
    refine l_p 1 tK rfl (q2 (x_seq (c_reg (l_p 1 tK rfl ?_))))
    refine lC (o_ai rfl rfl rfl (by omega) rfl rfl ?_)
    refine l_p 1 tK rfl (l_nil ?_)
    have htk : (partsL (canonF t)).take (i + 1) = (partsL (canonF t)).take i ++ [(partsL (canonF t))[i]] := List.take_succ_eq_append_getElem hik
    have hnb : numB (partsL (canonF t))[i].op = true := by unfold numB; simp [*]
    have hni : (partsL (canonF t))[i].n ∉ varsTo [] ((partsL (canonF t)).take i) := by assumption
    exact x_round3 (i + 1) (vw8) (Mw8) (s3 rfl rfl (get_num rfl (by omega))) ⟨by omega, by rw [htk, varsTo_yes hnb hni]; exact ho, hp, hlow, hsub, hE, hB⟩ (by omega)
   refine c_skip (x_blk (x_seq (c_reg (l_p 1 tK rfl ?_))))
   refine lC (o_ai rfl rfl rfl (by omega) rfl rfl ?_)
   refine l_p 1 tK rfl (l_nil ?_)
   have htk : (partsL (canonF t)).take (i + 1) = (partsL (canonF t)).take i ++ [(partsL (canonF t))[i]] := List.take_succ_eq_append_getElem hik
   have hst : varsTo [] ((partsL (canonF t)).take (i + 1)) = varsTo [] ((partsL (canonF t)).take i) := by
    rw [htk]
    cases hnb : numB (partsL (canonF t))[i].op with
    | false => exact varsTo_no hnb
    | true =>
     refine varsTo_old ?_
     unfold numB at hnb
     simp_all
   exact x_round3 (i + 1) (v) (M1) (s3 rfl rfl (get_num rfl (by omega))) ⟨by omega, by rw [hst]; exact ho, hp, hlow, hsub, hE, hB⟩ (by omega)
  refine l_p 9 tK rfl (q1 (c_ifF rfl (c_skip (x_blk (x_seq (c_reg (l_p 1 tK rfl ?_)))))))
  refine lC (o_ai rfl rfl rfl (by omega) rfl rfl ?_)
  refine l_p 1 tK rfl (l_nil ?_)
  have htk : (partsL (canonF t)).take (i + 1) = (partsL (canonF t)).take i ++ [(partsL (canonF t))[i]] := List.take_succ_eq_append_getElem hik
  have hst : varsTo [] ((partsL (canonF t)).take (i + 1)) = varsTo [] ((partsL (canonF t)).take i) := by
   rw [htk]
   cases hnb : numB (partsL (canonF t))[i].op with
   | false => exact varsTo_no hnb
   | true =>
    refine varsTo_old ?_
    unfold numB at hnb
    simp_all
  exact x_round3 (i + 1) (v) (M1) (s3 rfl rfl (get_num rfl (by omega))) ⟨by omega, by rw [hst]; exact ho, hp, hlow, hsub, hE, hB⟩ (by omega)
 refine c_exit (x_seqE (x_seqE (x_blkE (x_seq (q0 (l_p 2 tK rfl (q1 (c_ret (x_ret1 rfl rfl ?_)))))))))
 obtain rfl : i = (partsL (canonF t)).length := by omega
 rw [List.take_of_length_le (Nat.le_refl _)] at ho hvl
 exact ⟨ho.sl (by omega) hlow0 hsub, hE⟩
theorem refStatic_spec (t : Ty) (M : Nat → Prop) (w : World) (v : Value) (ht : Rep.R M w v t) (hlow : Low M w) (hz : psz t ≤ 2000000) :
  Calls Tryz.prog 42 #[v] w (Ret fun r w' => r = .bool (staticF t) ∧ Ext w w') := by
 have hE : Below w.heap.size w w := Below.refl _ _
 have hB : w.heap.size ≤ w.heap.size := Nat.le_refl _
 obtain ⟨kv, rfl, op, nm, n64, hk⟩ := ty_open ht
 have hpl : (partsL t).length = psz t := rfl
 refine c_enter (n := 27) Tryz.func42 rfl rfl rfl ?_
 refine q0 ?_
 refine lC (o_box rfl rfl rfl ?_)
 intro b1 w1 hb_b1 ew1 h1
 replace h1 : Box _ b1 25 [.int .u8 t.op, .string t.name, .int .i64 t.n, kv] := h1
 replace h1 := h1.at (nM_of hlow hb_b1)
 replace hE := ew1.bl hE hB
 replace ht := Rep.ext ht ew1
 replace hk := hk.ext ew1
 replace hlow := hlow.ext ew1
 replace hB := ew1.z hB
 refine l_p 1 tK rfl (q1 (q0 ?_))
 refine lC (o_lds tK (fun j v hv => h1.cell j v hv) rfl rfl rfl rfl rfl rfl ?_)
 refine lC (o_call fo25 rfl rfl rfl (parts_spec t _ _ _ ht hlow hz) ?_)
 rintro vhp w2 ⟨hp, ew2⟩
 replace hE := ew2.bl hE hB
 replace ht := Rep.ext ht ew2
 replace hk := hk.ext ew2
 replace h1 := h1.ext ew2
 replace hlow := hlow.ext ew2
 replace hB := ew2.z hB
 refine l_p 1 tK rfl (q1 (c_seq (q0 (l_p 1 tK rfl (q1 (c_blk ?_))))))
 refine c_loop (X := Nat) (fun i => [(3, vhp), (4, .int .i64 (i : Nat))]) (fun i w' => i ≤ (partsL t).length ∧ ((partsL t).take i).all statB = true ∧ Sl M w' vhp (partsL t) ∧ Low M w' ∧ Below w.heap.size w w' ∧ w.heap.size ≤ w'.heap.size) (fun i => (partsL t).length - i) (0) (s2 rfl rfl) ?_ ?_
 ·exact ⟨Nat.zero_le _, rfl, hp, hlow, hE, hB⟩
 rintro i w3 ⟨hi, hall, hp, hlow, hE, hB⟩
 refine c_seq (q0 (l_p 2 tK rfl ?_))
 refine lC (o_len tK hp rfl rfl rfl rfl rfl ?_)
 refine l_p 1 tK rfl (q1 ?_)
 refine c_ifP _ rfl (fun c1 => ?_) (fun c1 => ?_)
 ·refine c_skip (x_seq (c_seq (c_blk (q0 (l_p 2 tK rfl ?_)))))
  have hik : i < (partsL t).length := by omega
  refine lC (o_ixS tK hp (List.getElem?_eq_getElem hik) rfl rfl rfl rfl rfl rfl rfl rfl rfl ?_)
  intro ebx0 eox0 eux0 hyx0 hatx0
  obtain ⟨kvx0, rfl, opx0, nmx0, n64x0, hkx0⟩ := ty_open hyx0
  replace hatx0 : At M w3 ebx0 eox0 [.int .u8 (partsL t)[i].op, .string (partsL t)[i].name, .int .i64 (partsL t)[i].n, kvx0] := hatx0
  refine l_p 1 tK rfl ?_
  refine lC (o_ld tK (hatx0.cell 0 _ rfl) rfl rfl rfl rfl rfl ?_)
  refine l_p 2 tK rfl ?_
  refine l_splitP 19 _ rfl (fun c2 => ?_) (fun c2 => ?_)
  ·refine l_p 7 tK rfl (q1 (c_ifT rfl (q0 (l_p 1 tK rfl (q1 (c_ret (x_blkR (x_seqR (x_seqR (x_blkR (x_seqR (x_ret1 rfl rfl ?_))))))))))))
   have hsf : staticF t = false := List.all_eq_false.2 ⟨_, List.getElem_mem hik, by unfold statB; simp [*]⟩
   exact ⟨by rw [hsf], hE⟩
  refine l_p 2 tK rfl ?_
  refine lC (o_ixS tK hp (List.getElem?_eq_getElem hik) rfl rfl rfl rfl rfl rfl rfl rfl rfl ?_)
  intro ebx1 eox1 eux1 hyx1 hatx1
  obtain ⟨kvx1, rfl, opx1, nmx1, n64x1, hkx1⟩ := ty_open hyx1
  replace hatx1 : At M w3 ebx1 eox1 [.int .u8 (partsL t)[i].op, .string (partsL t)[i].name, .int .i64 (partsL t)[i].n, kvx1] := hatx1
  refine l_p 1 tK rfl ?_
  refine lC (o_ld tK (hatx1.cell 0 _ rfl) rfl rfl rfl rfl rfl ?_)
  refine l_p 2 tK rfl (q1 ?_)
  refine c_ifP _ rfl (fun c3 => ?_) (fun c3 => ?_)
  ·refine q0 (l_p 1 tK rfl (q1 (c_ret (x_blkR (x_seqR (x_seqR (x_blkR (x_seqR (x_ret1 rfl rfl ?_)))))))))
   have hsf : staticF t = false := List.all_eq_false.2 ⟨_, List.getElem_mem hik, by unfold statB; simp [*]⟩
   exact ⟨by rw [hsf], hE⟩
  refine c_skip (x_blk (x_seq (c_reg (l_p 1 tK rfl ?_))))
  refine lC (o_ai rfl rfl rfl (by omega) rfl rfl ?_)
  refine l_p 1 tK rfl (l_nil ?_)
  have hsb : statB (partsL t)[i] = true := by unfold statB; simp [*]
  exact x_round (i + 1) (s2 rfl (get_num rfl (by omega))) ⟨by omega, by rw [List.take_succ_eq_append_getElem hik, List.all_append, hall]; simp [hsb], hp, hlow, hE, hB⟩ (by omega)
 refine c_exit (x_seqE (x_seqE (x_blkE (x_seq (q0 (l_p 1 tK rfl (q1 (c_ret (x_ret1 rfl rfl ?_)))))))))
 rw [List.take_of_length_le (by omega)] at hall
 exact ⟨by rw [show staticF t = true from hall], hE⟩
end Go.Proofs.YtohfnpmehgpphaaGreat
namespace Go.Proofs.YtohfnpmehgpphaaGreat
open Go Rw Go.RowKit
set_option maxRecDepth 100000
theorem hasR_spec (s : ByteArray) (hs : s.size < 140737488355328) (c : UInt8) (w : World) :
  Calls Tryz.prog 49 #[.string s, .int .u8 c.toNat] w (Ret fun r w' => r = .bool (hasB s c) ∧ w = w') := by
 refine c_enter (n := 17) Tryz.func49 rfl rfl rfl ?_
 refine q0 (l_p 1 tK rfl (q1 (c_seq (q0 (l_p 1 tK rfl (q1 (c_blk ?_)))))))
 refine c_loop (X := Nat) (fun i => [(0, .string s), (1, .int .u8 c.toNat), (5, .int .i64 (i : Nat))]) (fun i w' => w = w' ∧ i ≤ s.size ∧ ∀ j, j < i → s.data[j]? ≠ some c) (fun i => s.size - i) (0) (s3 rfl rfl rfl) ?_ ?_
 ·exact ⟨rfl, Nat.zero_le _, fun j hj => absurd hj (Nat.not_lt_zero _)⟩
 rintro i _ ⟨rfl, hi, hall⟩
 refine c_seq (q0 (l_p 4 tK rfl (q1 ?_)))
 refine c_ifP _ rfl (fun c1 => ?_) (fun c1 => ?_)
 ·refine c_skip (x_seq (c_seq (c_blk (q0 (l_p 2 tK rfl ?_)))))
  have his : i < s.size := by omega
  have hd : s.data[i]? = some s.data[i] := Array.getElem?_eq_getElem his
  generalize hcc : s.data[i] = ch at hd
  refine lC (o_si tK rfl rfl rfl rfl rfl hd rfl rfl ?_)
  refine l_p 2 tK rfl (q1 ?_)
  refine c_ifP _ rfl (fun c2 => ?_) (fun c2 => ?_)
  ·refine q0 (l_p 1 tK rfl (q1 (c_ret (x_blkR (x_seqR (x_seqR (x_blkR (x_seqR (x_ret1 rfl rfl ?_)))))))))
   exact ⟨by rw [hasB_yes (c := c) (by rw [hd]; congr 1; exact UInt8.toNat_inj.1 (by omega))], rfl⟩
  refine c_skip (x_blk (x_seq (c_reg (l_p 1 tK rfl ?_))))
  refine lC (o_ai rfl rfl rfl (by omega) rfl rfl ?_)
  refine l_p 1 tK rfl (l_nil ?_)
  exact x_round (i + 1) (s3 rfl rfl rfl) ⟨rfl, by omega, fun j hj e => by
   by_cases he : j = i
   ·subst he; rw [hd] at e; cases e; omega
   ·exact hall j (by omega) e⟩ (by omega)
 refine c_exit (x_seqE (x_seqE (x_blkE (x_seq (q0 (l_p 1 tK rfl (q1 (c_ret (x_ret1 rfl rfl ?_)))))))))
 exact ⟨by rw [hasB_no (fun j hj => hall j (by omega))], rfl⟩
theorem partsS_spec (op : Int) (hop : 0 ≤ op ∧ op ≤ 255) (M : Nat → Prop) (w : World) (hlow : Low M w) :
  Calls Tryz.prog 27 #[.int .u8 op] w (Ret fun r w' => r = .string (partsS op) ∧ Ext w w') := by
 have hE : Below w.heap.size w w := Below.refl _ _
 have hB : w.heap.size ≤ w.heap.size := Nat.le_refl _
 have hpl : partsT.length = 20 := rfl
 refine c_enter (n := 20) Tryz.func27 rfl rfl rfl ?_
 refine q0 (l_p 1 tK rfl (q1 (q0 ?_)))
 refine lC (o_bs tK rfl rfl rfl rfl rfl rfl rfl (by intro v hv; simp at hv; rcases hv with rfl | rfl | rfl | rfl | rfl | rfl | rfl | rfl | rfl | rfl | rfl | rfl | rfl | rfl | rfl | rfl | rfl | rfl | rfl | rfl <;> rfl) rfl rfl rfl ?_)
 intro bw1 w1 qbw1 ew1 hbw1
 have nbw1 := nM_of hlow qbw1
 replace hE := ew1.bl hE hB
 replace hlow := hlow.ext ew1
 replace hB := ew1.z hB
 have hl : Sl M w1 (.slice (some ⟨bw1, 0, none⟩) 20 20) partsT := lit_sl hbw1 nbw1 (show Rs _ _ [_, _, _, _, _, _, _, _, _, _, _, _, _, _, _, _, _, _, _, _] partsT from ⟨⟨rfl, by decide⟩, ⟨rfl, by decide⟩, ⟨rfl, by decide⟩, ⟨rfl, by decide⟩, ⟨rfl, by decide⟩, ⟨rfl, by decide⟩, ⟨rfl, by decide⟩, ⟨rfl, by decide⟩, ⟨rfl, by decide⟩, ⟨rfl, by decide⟩, ⟨rfl, by decide⟩, ⟨rfl, by decide⟩, ⟨rfl, by decide⟩, ⟨rfl, by decide⟩, ⟨rfl, by decide⟩, ⟨rfl, by decide⟩, ⟨rfl, by decide⟩, ⟨rfl, by decide⟩, ⟨rfl, by decide⟩, ⟨rfl, by decide⟩, trivial⟩) (by decide)
 refine l_p 1 tK rfl (q1 (c_seq (q0 (l_p 3 tK rfl ?_))))
 refine l_splitP 7 _ rfl (fun c1 => ?_) (fun c1 => ?_)
 ·refine l_p 7 tK rfl (q1 (c_ifT rfl (q0 (l_p 1 tK rfl (q1 (c_ret (x_seqR (x_ret1 rfl rfl ?_))))))))
  exact ⟨by unfold partsS; rw [if_pos (by omega)], hE⟩
 refine l_p 1 tK rfl ?_
 refine lC (o_conv (y := op) tK rfl rfl rfl rfl rfl (IntWalk.i64_in _ (by omega)) rfl rfl ?_)
 refine l_p 1 tK rfl ?_
 refine lC (o_len tK hl rfl rfl rfl rfl rfl ?_)
 refine lC (o_ai rfl rfl rfl (by omega) rfl rfl ?_)
 refine l_p 2 tK rfl (q1 ?_)
 refine c_ifP _ rfl (fun c2 => ?_) (fun c2 => ?_)
 ·refine q0 (l_p 1 tK rfl (q1 (c_ret (x_seqR (x_ret1 rfl rfl ?_)))))
  exact ⟨by unfold partsS; rw [if_pos (by omega)], hE⟩
 refine c_skip (x_seq (q0 (l_p 2 tK rfl ?_)))
 refine lC (o_ar rfl rfl rfl (z := op - 32) (by rw [IntKind.wrap_u8]; omega) rfl rfl ?_)
 have hlen : (op - 32).toNat < partsT.length := by show _ < 20; omega
 refine lC (o_ixS tK hl (List.getElem?_eq_getElem hlen) rfl rfl (by omega) rfl rfl rfl rfl rfl rfl ?_)
 intro b o u hr hat
 obtain ⟨rfl, _⟩ := hr
 refine lC (o_ld tK (hat.cell 0 _ rfl) rfl rfl rfl rfl rfl ?_)
 refine l_p 1 tK rfl (q1 (c_ret (x_ret1 rfl rfl ?_)))
 exact ⟨by unfold partsS; rw [if_neg (by omega), List.getElem?_eq_getElem hlen, Option.getD_some], hE⟩
theorem zero_spec (t : Ty) (M : Nat → Prop) (w : World) (v : Value) (ht : Rep.R M w v t) (hlow : Low M w) :
  Calls Tryz.prog 51 #[v] w (Ret fun r w' => r = .bool (blankB t) ∧ Ext w w') := by
 have hE : Below w.heap.size w w := Below.refl _ _
 have hB : w.heap.size ≤ w.heap.size := Nat.le_refl _
 obtain ⟨kv, rfl, op, nm, n64, hk⟩ := ty_open ht
 refine c_enter (n := 22) Tryz.func51 rfl rfl rfl ?_
 refine q0 ?_
 refine lC (o_box rfl rfl rfl ?_)
 intro b1 w1 hb_b1 ew1 h1
 replace h1 : Box _ b1 25 [.int .u8 t.op, .string t.name, .int .i64 t.n, kv] := h1
 replace h1 := h1.at (nM_of hlow hb_b1)
 replace hE := ew1.bl hE hB
 replace ht := Rep.ext ht ew1
 replace hk := hk.ext ew1
 replace hlow := hlow.ext ew1
 replace hB := ew1.z hB
 refine l_p 1 tK rfl (q1 (q0 (l_p 1 tK rfl ?_)))
 refine lC (o_ld tK (h1.cell 0 _ rfl) rfl rfl rfl rfl rfl ?_)
 refine l_p 2 tK rfl ?_
 refine l_splitP 6 _ rfl (fun c1 => ?_) (fun c1 => ?_)
 ·refine l_p 1 tK rfl ?_
  refine lC (o_ld tK (h1.cell 1 _ rfl) rfl rfl rfl rfl rfl ?_)
  refine l_p 3 tK rfl ?_
  refine l_splitP 11 _ rfl (fun c2 => ?_) (fun c2 => ?_)
  ·refine l_p 1 tK rfl ?_
   refine lC (o_ld tK (h1.cell 2 _ rfl) rfl rfl rfl rfl rfl ?_)
   refine l_p 3 tK rfl ?_
   refine l_splitP 16 _ rfl (fun c3 => ?_) (fun c3 => ?_)
   ·refine l_p 1 tK rfl ?_
    refine lC (o_ld tK (h1.cell 3 _ rfl) rfl rfl rfl rfl rfl ?_)
    refine lC (o_len tK hk rfl rfl rfl rfl rfl ?_)
    refine l_p 3 tK rfl (q1 (c_ret (x_ret1 rfl rfl ?_)))
    exact ⟨by congr 1; unfold blankB; simp_all, hE⟩
   refine l_p 6 tK rfl (q1 (c_ret (x_ret1 rfl rfl ?_)))
   exact ⟨by congr 1; unfold blankB; simp_all, hE⟩
  refine l_p 11 tK rfl (q1 (c_ret (x_ret1 rfl rfl ?_)))
  exact ⟨by congr 1; unfold blankB; simp_all, hE⟩
 refine l_p 16 tK rfl (q1 (c_ret (x_ret1 rfl rfl ?_)))
 exact ⟨by congr 1; unfold blankB; simp_all, hE⟩
theorem partsR_spec (t : Tm) (p : ByteArray) (hp : p.size < 140737488355328) (M : Nat → Prop) (w : World) (v : Value) (ht : Rep.R M w v t) (hlow : Low M w) (hz : psz t.ann ≤ 2000000) :
  Calls Tryz.prog 28 #[v, .string p] w (Ret fun r w' => r = .bool (partsB t p) ∧ Ext w w') := by
 have hE : Below w.heap.size w w := Below.refl _ _
 have hB : w.heap.size ≤ w.heap.size := Nat.le_refl _
 obtain ⟨akv, kv, rfl, op, nm, ag, n64, ha, hk⟩ := tm_open ht
 refine c_enter (n := 135) Tryz.func28 rfl rfl rfl ?_
 refine q0 ?_
 refine lC (o_box rfl rfl rfl ?_)
 intro b2 w1 hb_b2 ew1 h2
 replace h2 : Box _ b2 28 [.int .u8 t.op, .string t.name, .string t.arg, .int .i64 t.n, .bool t.has, .int .u8 t.ann.op, .string t.ann.name, .int .i64 t.ann.n, akv, kv] := h2
 replace h2 := h2.at (nM_of hlow hb_b2)
 replace hE := ew1.bl hE hB
 replace ht := Rep.ext ht ew1
 replace ha := Rep.ext ha ew1
 replace hk := hk.ext ew1
 replace hlow := hlow.ext ew1
 replace hB := ew1.z hB
 refine l_p 1 tK rfl (q1 ?_)
 refine c_cut (X := Unit) (fun _u => [(1, .string p), (2, .pointer (some ⟨b2, 0, none⟩))]) (fun _u w' => (hasB p 111 == signB t.name) = true ∧ At M w' b2 0 [.int .u8 t.op, .string t.name, .string t.arg, .int .i64 t.n, .bool t.has, .int .u8 t.ann.op, .string t.ann.name, .int .i64 t.ann.n, akv, kv] ∧ Rep.R M w' (.agg #[.int .u8 t.ann.op, .string t.ann.name, .int .i64 t.ann.n, akv]) t.ann ∧ Low M w' ∧ Below w.heap.size w w' ∧ w.heap.size ≤ w'.heap.size) ?_ ?_
 ·refine c_seq ?_
  refine a_beg Ext rfl ?_
  intro w2 ew2
  replace hE := ew2.bl hE hB
  replace ht := Rep.ext ht ew2
  replace ha := Rep.ext ha ew2
  replace hk := hk.ext ew2
  replace h2 := h2.ext ew2
  replace hlow := hlow.ext ew2
  replace hB := ew2.z hB
  have hS : Ext w2 w2 := ext_refl _
  have D_hk := hk
  have D_h2 := h2
  refine a_p 0 tK rfl rfl rfl rfl (by kernel_rfl) (fun _ _ _ h => h) hS ?_
  refine a_p 2 tK rfl rfl rfl rfl (by kernel_rfl) (fun _ _ _ h => h) hS ?_
  refine a_ld 3 tK (fun _ hs => (D_h2.ext hs).cell 1 _ rfl) rfl rfl rfl rfl rfl rfl (by kernel_rfl) (fun _ _ _ h => h) hS ?_
  refine a_p 4 tK rfl rfl rfl rfl (by kernel_rfl) (fun _ _ _ h => h) hS ?_
  refine a_one 1 rfl (by kernel_rfl) (o_call fo49 rfl rfl rfl (hasR_spec p hp 111 _) ?_)
  rintro _ _ ⟨rfl, rfl⟩
  refine ⟨hS, ?_⟩
  refine a_p 5 tK rfl rfl rfl rfl (by kernel_rfl) (fun _ _ _ h => h) hS ?_
  refine a_splitP 10 _ rfl (fun c1 => ?_) (fun c1 => ?_)
  ·refine a_skip 6 rfl rfl rfl (by kernel_rfl) (fun _ _ _ h => h) hS ?_
   refine a_skip 7 rfl rfl rfl (by kernel_rfl) (fun _ _ _ h => h) hS ?_
   refine a_skip 8 rfl rfl rfl (by kernel_rfl) (fun _ _ _ h => h) hS ?_
   refine a_p 9 tK rfl rfl rfl rfl (by kernel_rfl) (fun _ _ _ h => h) hS ?_
   refine a_p 10 tK rfl rfl rfl rfl (by kernel_rfl) (fun _ _ _ h => h) hS ?_
   refine a_skip 11 rfl rfl rfl (by kernel_rfl) (fun _ _ _ h => h) hS ?_
   refine a_skip 12 rfl rfl rfl (by kernel_rfl) (fun _ _ _ h => h) hS ?_
   refine a_skip 13 rfl rfl rfl (by kernel_rfl) (fun _ _ _ h => h) hS ?_
   refine a_p 14 tK rfl rfl rfl rfl (by kernel_rfl) (fun _ _ _ h => h) hS ?_
   refine a_p 15 tK rfl rfl rfl rfl (by kernel_rfl) (fun _ _ _ h => h) hS ?_
   refine a_skip 16 rfl rfl rfl (by kernel_rfl) (fun _ _ _ h => h) hS ?_
   refine a_skip 17 rfl rfl rfl (by kernel_rfl) (fun _ _ _ h => h) hS ?_
   refine a_skip 18 rfl rfl rfl (by kernel_rfl) (fun _ _ _ h => h) hS ?_
   refine a_p 19 tK rfl rfl rfl rfl (by kernel_rfl) (fun _ _ _ h => h) hS ?_
   refine a_p 20 tK rfl rfl rfl rfl (by kernel_rfl) (fun _ _ _ h => h) hS ?_
   refine a_skip 21 rfl rfl rfl (by kernel_rfl) (fun _ _ _ h => h) hS ?_
   refine a_skip 22 rfl rfl rfl (by kernel_rfl) (fun _ _ _ h => h) hS ?_
   refine a_skip 23 rfl rfl rfl (by kernel_rfl) (fun _ _ _ h => h) hS ?_
   refine a_p 24 tK rfl rfl rfl rfl (by kernel_rfl) (fun _ _ _ h => h) hS ?_
   refine a_p 25 tK rfl rfl rfl rfl (by kernel_rfl) (fun _ _ _ h => h) hS ?_
   refine a_skip 26 rfl rfl rfl (by kernel_rfl) (fun _ _ _ h => h) hS ?_
   refine a_skip 27 rfl rfl rfl (by kernel_rfl) (fun _ _ _ h => h) hS ?_
   refine a_skip 28 rfl rfl rfl (by kernel_rfl) (fun _ _ _ h => h) hS ?_
   refine a_p 29 tK rfl rfl rfl rfl (by kernel_rfl) (fun _ _ _ h => h) hS ?_
   refine a_p 30 tK rfl rfl rfl rfl (by kernel_rfl) (fun _ _ _ h => h) hS ?_
   refine a_skip 31 rfl rfl rfl (by kernel_rfl) (fun _ _ _ h => h) hS ?_
   refine a_skip 32 rfl rfl rfl (by kernel_rfl) (fun _ _ _ h => h) hS ?_
   refine a_skip 33 rfl rfl rfl (by kernel_rfl) (fun _ _ _ h => h) hS ?_
   refine a_p 34 tK rfl rfl rfl rfl (by kernel_rfl) (fun _ _ _ h => h) hS ?_
   refine a_bar 35 rfl (by kernel_rfl) (by kernel_rfl) (o_bne tK rfl rfl rfl rfl rfl rfl ?_)
   refine a_end (by kernel_rfl) ?_
   refine x_seq ?_
   refine c_if _ rfl (fun c2 => ?_) (fun c2 => ?_)
   ·refine q0 (l_p 1 tK rfl (q1 (c_ret (x_seqR (x_ret1 rfl rfl ?_)))))
    refine ⟨?_, hE⟩
    have hA : ((hasB p 111 == signB t.name)) = false := by
     simp_all [signB]
    unfold partsB
    rw [hA]
    simp
   refine c_skip ?_
   have hA : (hasB p 111 == signB t.name) = true := by
    simp_all [signB]
   exact x_cut (()) (s2 rfl rfl) ⟨hA, h2, ha, hlow, hE, hB⟩
  refine a_p 6 tK rfl rfl rfl rfl (by kernel_rfl) (fun _ _ _ h => h) hS ?_
  refine a_ld 7 tK (fun _ hs => (D_h2.ext hs).cell 1 _ rfl) rfl rfl rfl rfl rfl rfl (by kernel_rfl) (fun _ _ _ h => h) hS ?_
  refine a_p 8 tK rfl rfl rfl rfl (by kernel_rfl) (fun _ _ _ h => h) hS ?_
  refine a_p 9 tK rfl rfl rfl rfl (by kernel_rfl) (fun _ _ _ h => h) hS ?_
  refine a_p 10 tK rfl rfl rfl rfl (by kernel_rfl) (fun _ _ _ h => h) hS ?_
  refine a_splitP 15 _ rfl (fun c3 => ?_) (fun c3 => ?_)
  ·refine a_skip 11 rfl rfl rfl (by kernel_rfl) (fun _ _ _ h => h) hS ?_
   refine a_skip 12 rfl rfl rfl (by kernel_rfl) (fun _ _ _ h => h) hS ?_
   refine a_skip 13 rfl rfl rfl (by kernel_rfl) (fun _ _ _ h => h) hS ?_
   refine a_p 14 tK rfl rfl rfl rfl (by kernel_rfl) (fun _ _ _ h => h) hS ?_
   refine a_p 15 tK rfl rfl rfl rfl (by kernel_rfl) (fun _ _ _ h => h) hS ?_
   refine a_skip 16 rfl rfl rfl (by kernel_rfl) (fun _ _ _ h => h) hS ?_
   refine a_skip 17 rfl rfl rfl (by kernel_rfl) (fun _ _ _ h => h) hS ?_
   refine a_skip 18 rfl rfl rfl (by kernel_rfl) (fun _ _ _ h => h) hS ?_
   refine a_p 19 tK rfl rfl rfl rfl (by kernel_rfl) (fun _ _ _ h => h) hS ?_
   refine a_p 20 tK rfl rfl rfl rfl (by kernel_rfl) (fun _ _ _ h => h) hS ?_
   refine a_skip 21 rfl rfl rfl (by kernel_rfl) (fun _ _ _ h => h) hS ?_
   refine a_skip 22 rfl rfl rfl (by kernel_rfl) (fun _ _ _ h => h) hS ?_
   refine a_skip 23 rfl rfl rfl (by kernel_rfl) (fun _ _ _ h => h) hS ?_
   refine a_p 24 tK rfl rfl rfl rfl (by kernel_rfl) (fun _ _ _ h => h) hS ?_
   refine a_p 25 tK rfl rfl rfl rfl (by kernel_rfl) (fun _ _ _ h => h) hS ?_
   refine a_skip 26 rfl rfl rfl (by kernel_rfl) (fun _ _ _ h => h) hS ?_
   refine a_skip 27 rfl rfl rfl (by kernel_rfl) (fun _ _ _ h => h) hS ?_
   refine a_skip 28 rfl rfl rfl (by kernel_rfl) (fun _ _ _ h => h) hS ?_
   refine a_p 29 tK rfl rfl rfl rfl (by kernel_rfl) (fun _ _ _ h => h) hS ?_
   refine a_p 30 tK rfl rfl rfl rfl (by kernel_rfl) (fun _ _ _ h => h) hS ?_
   refine a_skip 31 rfl rfl rfl (by kernel_rfl) (fun _ _ _ h => h) hS ?_
   refine a_skip 32 rfl rfl rfl (by kernel_rfl) (fun _ _ _ h => h) hS ?_
   refine a_skip 33 rfl rfl rfl (by kernel_rfl) (fun _ _ _ h => h) hS ?_
   refine a_p 34 tK rfl rfl rfl rfl (by kernel_rfl) (fun _ _ _ h => h) hS ?_
   refine a_bar 35 rfl (by kernel_rfl) (by kernel_rfl) (o_bne tK rfl rfl rfl rfl rfl rfl ?_)
   refine a_end (by kernel_rfl) ?_
   refine x_seq ?_
   refine c_if _ rfl (fun c4 => ?_) (fun c4 => ?_)
   ·refine q0 (l_p 1 tK rfl (q1 (c_ret (x_seqR (x_ret1 rfl rfl ?_)))))
    refine ⟨?_, hE⟩
    have hA : ((hasB p 111 == signB t.name)) = false := by
     simp_all [signB]
    unfold partsB
    rw [hA]
    simp
   refine c_skip ?_
   have hA : (hasB p 111 == signB t.name) = true := by
    simp_all [signB]
   exact x_cut (()) (s2 rfl rfl) ⟨hA, h2, ha, hlow, hE, hB⟩
  refine a_p 11 tK rfl rfl rfl rfl (by kernel_rfl) (fun _ _ _ h => h) hS ?_
  refine a_ld 12 tK (fun _ hs => (D_h2.ext hs).cell 1 _ rfl) rfl rfl rfl rfl rfl rfl (by kernel_rfl) (fun _ _ _ h => h) hS ?_
  refine a_p 13 tK rfl rfl rfl rfl (by kernel_rfl) (fun _ _ _ h => h) hS ?_
  refine a_p 14 tK rfl rfl rfl rfl (by kernel_rfl) (fun _ _ _ h => h) hS ?_
  refine a_p 15 tK rfl rfl rfl rfl (by kernel_rfl) (fun _ _ _ h => h) hS ?_
  refine a_splitP 20 _ rfl (fun c5 => ?_) (fun c5 => ?_)
  ·refine a_skip 16 rfl rfl rfl (by kernel_rfl) (fun _ _ _ h => h) hS ?_
   refine a_skip 17 rfl rfl rfl (by kernel_rfl) (fun _ _ _ h => h) hS ?_
   refine a_skip 18 rfl rfl rfl (by kernel_rfl) (fun _ _ _ h => h) hS ?_
   refine a_p 19 tK rfl rfl rfl rfl (by kernel_rfl) (fun _ _ _ h => h) hS ?_
   refine a_p 20 tK rfl rfl rfl rfl (by kernel_rfl) (fun _ _ _ h => h) hS ?_
   refine a_skip 21 rfl rfl rfl (by kernel_rfl) (fun _ _ _ h => h) hS ?_
   refine a_skip 22 rfl rfl rfl (by kernel_rfl) (fun _ _ _ h => h) hS ?_
   refine a_skip 23 rfl rfl rfl (by kernel_rfl) (fun _ _ _ h => h) hS ?_
   refine a_p 24 tK rfl rfl rfl rfl (by kernel_rfl) (fun _ _ _ h => h) hS ?_
   refine a_p 25 tK rfl rfl rfl rfl (by kernel_rfl) (fun _ _ _ h => h) hS ?_
   refine a_skip 26 rfl rfl rfl (by kernel_rfl) (fun _ _ _ h => h) hS ?_
   refine a_skip 27 rfl rfl rfl (by kernel_rfl) (fun _ _ _ h => h) hS ?_
   refine a_skip 28 rfl rfl rfl (by kernel_rfl) (fun _ _ _ h => h) hS ?_
   refine a_p 29 tK rfl rfl rfl rfl (by kernel_rfl) (fun _ _ _ h => h) hS ?_
   refine a_p 30 tK rfl rfl rfl rfl (by kernel_rfl) (fun _ _ _ h => h) hS ?_
   refine a_skip 31 rfl rfl rfl (by kernel_rfl) (fun _ _ _ h => h) hS ?_
   refine a_skip 32 rfl rfl rfl (by kernel_rfl) (fun _ _ _ h => h) hS ?_
   refine a_skip 33 rfl rfl rfl (by kernel_rfl) (fun _ _ _ h => h) hS ?_
   refine a_p 34 tK rfl rfl rfl rfl (by kernel_rfl) (fun _ _ _ h => h) hS ?_
   refine a_bar 35 rfl (by kernel_rfl) (by kernel_rfl) (o_bne tK rfl rfl rfl rfl rfl rfl ?_)
   refine a_end (by kernel_rfl) ?_
   refine x_seq ?_
   refine c_if _ rfl (fun c6 => ?_) (fun c6 => ?_)
   ·refine q0 (l_p 1 tK rfl (q1 (c_ret (x_seqR (x_ret1 rfl rfl ?_)))))
    refine ⟨?_, hE⟩
    have hA : ((hasB p 111 == signB t.name)) = false := by
     simp_all [signB]
    unfold partsB
    rw [hA]
    simp
   refine c_skip ?_
   have hA : (hasB p 111 == signB t.name) = true := by
    simp_all [signB]
   exact x_cut (()) (s2 rfl rfl) ⟨hA, h2, ha, hlow, hE, hB⟩
  refine a_p 16 tK rfl rfl rfl rfl (by kernel_rfl) (fun _ _ _ h => h) hS ?_
  refine a_ld 17 tK (fun _ hs => (D_h2.ext hs).cell 1 _ rfl) rfl rfl rfl rfl rfl rfl (by kernel_rfl) (fun _ _ _ h => h) hS ?_
  refine a_p 18 tK rfl rfl rfl rfl (by kernel_rfl) (fun _ _ _ h => h) hS ?_
  refine a_p 19 tK rfl rfl rfl rfl (by kernel_rfl) (fun _ _ _ h => h) hS ?_
  refine a_p 20 tK rfl rfl rfl rfl (by kernel_rfl) (fun _ _ _ h => h) hS ?_
  refine a_splitP 25 _ rfl (fun c7 => ?_) (fun c7 => ?_)
  ·refine a_skip 21 rfl rfl rfl (by kernel_rfl) (fun _ _ _ h => h) hS ?_
   refine a_skip 22 rfl rfl rfl (by kernel_rfl) (fun _ _ _ h => h) hS ?_
   refine a_skip 23 rfl rfl rfl (by kernel_rfl) (fun _ _ _ h => h) hS ?_
   refine a_p 24 tK rfl rfl rfl rfl (by kernel_rfl) (fun _ _ _ h => h) hS ?_
   refine a_p 25 tK rfl rfl rfl rfl (by kernel_rfl) (fun _ _ _ h => h) hS ?_
   refine a_skip 26 rfl rfl rfl (by kernel_rfl) (fun _ _ _ h => h) hS ?_
   refine a_skip 27 rfl rfl rfl (by kernel_rfl) (fun _ _ _ h => h) hS ?_
   refine a_skip 28 rfl rfl rfl (by kernel_rfl) (fun _ _ _ h => h) hS ?_
   refine a_p 29 tK rfl rfl rfl rfl (by kernel_rfl) (fun _ _ _ h => h) hS ?_
   refine a_p 30 tK rfl rfl rfl rfl (by kernel_rfl) (fun _ _ _ h => h) hS ?_
   refine a_skip 31 rfl rfl rfl (by kernel_rfl) (fun _ _ _ h => h) hS ?_
   refine a_skip 32 rfl rfl rfl (by kernel_rfl) (fun _ _ _ h => h) hS ?_
   refine a_skip 33 rfl rfl rfl (by kernel_rfl) (fun _ _ _ h => h) hS ?_
   refine a_p 34 tK rfl rfl rfl rfl (by kernel_rfl) (fun _ _ _ h => h) hS ?_
   refine a_bar 35 rfl (by kernel_rfl) (by kernel_rfl) (o_bne tK rfl rfl rfl rfl rfl rfl ?_)
   refine a_end (by kernel_rfl) ?_
   refine x_seq ?_
   refine c_if _ rfl (fun c8 => ?_) (fun c8 => ?_)
   ·refine q0 (l_p 1 tK rfl (q1 (c_ret (x_seqR (x_ret1 rfl rfl ?_)))))
    refine ⟨?_, hE⟩
    have hA : ((hasB p 111 == signB t.name)) = false := by
     simp_all [signB]
    unfold partsB
    rw [hA]
    simp
   refine c_skip ?_
   have hA : (hasB p 111 == signB t.name) = true := by
    simp_all [signB]
   exact x_cut (()) (s2 rfl rfl) ⟨hA, h2, ha, hlow, hE, hB⟩
  refine a_p 21 tK rfl rfl rfl rfl (by kernel_rfl) (fun _ _ _ h => h) hS ?_
  refine a_ld 22 tK (fun _ hs => (D_h2.ext hs).cell 1 _ rfl) rfl rfl rfl rfl rfl rfl (by kernel_rfl) (fun _ _ _ h => h) hS ?_
  refine a_p 23 tK rfl rfl rfl rfl (by kernel_rfl) (fun _ _ _ h => h) hS ?_
  refine a_p 24 tK rfl rfl rfl rfl (by kernel_rfl) (fun _ _ _ h => h) hS ?_
  refine a_p 25 tK rfl rfl rfl rfl (by kernel_rfl) (fun _ _ _ h => h) hS ?_
  refine a_splitP 30 _ rfl (fun c9 => ?_) (fun c9 => ?_)
  ·refine a_skip 26 rfl rfl rfl (by kernel_rfl) (fun _ _ _ h => h) hS ?_
   refine a_skip 27 rfl rfl rfl (by kernel_rfl) (fun _ _ _ h => h) hS ?_
   refine a_skip 28 rfl rfl rfl (by kernel_rfl) (fun _ _ _ h => h) hS ?_
   refine a_p 29 tK rfl rfl rfl rfl (by kernel_rfl) (fun _ _ _ h => h) hS ?_
   refine a_p 30 tK rfl rfl rfl rfl (by kernel_rfl) (fun _ _ _ h => h) hS ?_
   refine a_skip 31 rfl rfl rfl (by kernel_rfl) (fun _ _ _ h => h) hS ?_
   refine a_skip 32 rfl rfl rfl (by kernel_rfl) (fun _ _ _ h => h) hS ?_
   refine a_skip 33 rfl rfl rfl (by kernel_rfl) (fun _ _ _ h => h) hS ?_
   refine a_p 34 tK rfl rfl rfl rfl (by kernel_rfl) (fun _ _ _ h => h) hS ?_
   refine a_bar 35 rfl (by kernel_rfl) (by kernel_rfl) (o_bne tK rfl rfl rfl rfl rfl rfl ?_)
   refine a_end (by kernel_rfl) ?_
   refine x_seq ?_
   refine c_if _ rfl (fun c10 => ?_) (fun c10 => ?_)
   ·refine q0 (l_p 1 tK rfl (q1 (c_ret (x_seqR (x_ret1 rfl rfl ?_)))))
    refine ⟨?_, hE⟩
    have hA : ((hasB p 111 == signB t.name)) = false := by
     simp_all [signB]
    unfold partsB
    rw [hA]
    simp
   refine c_skip ?_
   have hA : (hasB p 111 == signB t.name) = true := by
    simp_all [signB]
   exact x_cut (()) (s2 rfl rfl) ⟨hA, h2, ha, hlow, hE, hB⟩
  refine a_p 26 tK rfl rfl rfl rfl (by kernel_rfl) (fun _ _ _ h => h) hS ?_
  refine a_ld 27 tK (fun _ hs => (D_h2.ext hs).cell 1 _ rfl) rfl rfl rfl rfl rfl rfl (by kernel_rfl) (fun _ _ _ h => h) hS ?_
  refine a_p 28 tK rfl rfl rfl rfl (by kernel_rfl) (fun _ _ _ h => h) hS ?_
  refine a_p 29 tK rfl rfl rfl rfl (by kernel_rfl) (fun _ _ _ h => h) hS ?_
  refine a_p 30 tK rfl rfl rfl rfl (by kernel_rfl) (fun _ _ _ h => h) hS ?_
  refine a_splitP 35 _ rfl (fun c11 => ?_) (fun c11 => ?_)
  ·refine a_skip 31 rfl rfl rfl (by kernel_rfl) (fun _ _ _ h => h) hS ?_
   refine a_skip 32 rfl rfl rfl (by kernel_rfl) (fun _ _ _ h => h) hS ?_
   refine a_skip 33 rfl rfl rfl (by kernel_rfl) (fun _ _ _ h => h) hS ?_
   refine a_p 34 tK rfl rfl rfl rfl (by kernel_rfl) (fun _ _ _ h => h) hS ?_
   refine a_bar 35 rfl (by kernel_rfl) (by kernel_rfl) (o_bne tK rfl rfl rfl rfl rfl rfl ?_)
   refine a_end (by kernel_rfl) ?_
   refine x_seq ?_
   refine c_if _ rfl (fun c12 => ?_) (fun c12 => ?_)
   ·refine q0 (l_p 1 tK rfl (q1 (c_ret (x_seqR (x_ret1 rfl rfl ?_)))))
    refine ⟨?_, hE⟩
    have hA : ((hasB p 111 == signB t.name)) = false := by
     simp_all [signB]
    unfold partsB
    rw [hA]
    simp
   refine c_skip ?_
   have hA : (hasB p 111 == signB t.name) = true := by
    simp_all [signB]
   exact x_cut (()) (s2 rfl rfl) ⟨hA, h2, ha, hlow, hE, hB⟩
  refine a_p 31 tK rfl rfl rfl rfl (by kernel_rfl) (fun _ _ _ h => h) hS ?_
  refine a_ld 32 tK (fun _ hs => (D_h2.ext hs).cell 1 _ rfl) rfl rfl rfl rfl rfl rfl (by kernel_rfl) (fun _ _ _ h => h) hS ?_
  refine a_p 33 tK rfl rfl rfl rfl (by kernel_rfl) (fun _ _ _ h => h) hS ?_
  refine a_p 34 tK rfl rfl rfl rfl (by kernel_rfl) (fun _ _ _ h => h) hS ?_
  refine a_bar 35 rfl (by kernel_rfl) (by kernel_rfl) (o_bne tK rfl rfl rfl rfl rfl rfl ?_)
  refine a_end (by kernel_rfl) ?_
  refine x_seq ?_
  refine c_if _ rfl (fun c13 => ?_) (fun c13 => ?_)
  ·refine q0 (l_p 1 tK rfl (q1 (c_ret (x_seqR (x_ret1 rfl rfl ?_)))))
   refine ⟨?_, hE⟩
   have hA : ((hasB p 111 == signB t.name)) = false := by
    simp_all [signB]
   unfold partsB
   rw [hA]
   simp
  refine c_skip ?_
  have hA : (hasB p 111 == signB t.name) = true := by
   simp_all [signB]
  exact x_cut (()) (s2 rfl rfl) ⟨hA, h2, ha, hlow, hE, hB⟩
 clear h2 ha hlow hE hB ht hk
 rintro _ w81 ⟨hA1, h2, ha, hlow, hE, hB⟩
 refine c_cut (X := Unit) (fun _u => [(1, .string p), (2, .pointer (some ⟨b2, 0, none⟩))]) (fun _u w' => (hasB p 111 || ((hasB p 110 == isWordB t.name) && (hasB p 110 || decide (t.name = ⟨#[]⟩)))) = true ∧ At M w' b2 0 [.int .u8 t.op, .string t.name, .string t.arg, .int .i64 t.n, .bool t.has, .int .u8 t.ann.op, .string t.ann.name, .int .i64 t.ann.n, akv, kv] ∧ Rep.R M w' (.agg #[.int .u8 t.ann.op, .string t.ann.name, .int .i64 t.ann.n, akv]) t.ann ∧ Low M w' ∧ Below w.heap.size w w' ∧ w.heap.size ≤ w'.heap.size) ?_ ?_
 ·refine c_seq ?_
  refine a_beg Ext rfl ?_
  intro w3 ew3
  replace hE := ew3.bl hE hB
  replace h2 := h2.ext ew3
  replace ha := Rep.ext ha ew3
  replace hlow := hlow.ext ew3
  replace hB := ew3.z hB
  have hS : Ext w3 w3 := ext_refl _
  have D_h2 := h2
  refine a_p 0 tK rfl rfl rfl rfl (by kernel_rfl) (fun _ _ _ h => h) hS ?_
  refine a_bar 1 rfl (by kernel_rfl) (by kernel_rfl) (o_call fo49 rfl rfl rfl (hasR_spec p hp 111 _) ?_)
  rintro _ _ ⟨rfl, rfl⟩
  refine a_p 2 tK rfl rfl rfl rfl (by kernel_rfl) (fun _ _ _ h => h) hS ?_
  refine a_p 3 tK rfl rfl rfl rfl (by kernel_rfl) (fun _ _ _ h => h) hS ?_
  refine a_splitB 44 _ rfl (fun c14 => ?_) (fun c14 => ?_)
  ·refine a_p 4 tK rfl rfl rfl rfl (by kernel_rfl) (fun _ _ _ h => h) hS ?_
   refine a_p 6 tK rfl rfl rfl rfl (by kernel_rfl) (fun _ _ _ h => h) hS ?_
   refine a_ld 7 tK (fun _ hs => (D_h2.ext hs).cell 1 _ rfl) rfl rfl rfl rfl rfl rfl (by kernel_rfl) (fun _ _ _ h => h) hS ?_
   refine a_one 5 rfl (by kernel_rfl) (o_call fo49 rfl rfl rfl (hasR_spec p hp 110 _) ?_)
   rintro _ _ ⟨rfl, rfl⟩
   refine ⟨hS, ?_⟩
   refine a_bar 8 rfl (by kernel_rfl) (by kernel_rfl) (o_call fo50 rfl rfl rfl (risWord_spec M _ _ (by first | exact nm | exact ag) hlow) ?_)
   rintro _ w4 ⟨rfl, ew4⟩
   replace hS := hS.then ew4
   replace hE := ew4.bl hE hB
   replace h2 := h2.ext ew4
   replace ha := Rep.ext ha ew4
   replace hlow := hlow.ext ew4
   replace hB := ew4.z hB
   refine a_bar 9 rfl (by kernel_rfl) (by kernel_rfl) (o_bne tK rfl rfl rfl rfl rfl rfl ?_)
   refine a_p 10 tK rfl rfl rfl rfl (by kernel_rfl) (fun _ _ _ h => h) hS ?_
   refine a_p 11 tK rfl rfl rfl rfl (by kernel_rfl) (fun _ _ _ h => h) hS ?_
   refine a_split 52 _ rfl (fun c15 => ?_) (fun c15 => ?_)
   ·refine a_skip 12 rfl rfl rfl (by kernel_rfl) (fun _ _ _ h => h) hS ?_
    refine a_skip 13 rfl rfl rfl (by kernel_rfl) (fun _ _ _ h => h) hS ?_
    refine a_skip 14 rfl rfl rfl (by kernel_rfl) (fun _ _ _ h => h) hS ?_
    refine a_skip 15 rfl rfl rfl (by kernel_rfl) (fun _ _ _ h => h) hS ?_
    refine a_skip 16 rfl rfl rfl (by kernel_rfl) (fun _ _ _ h => h) hS ?_
    refine a_skip 17 rfl rfl rfl (by kernel_rfl) (fun _ _ _ h => h) hS ?_
    refine a_skip 18 rfl rfl rfl (by kernel_rfl) (fun _ _ _ h => h) hS ?_
    refine a_skip 19 rfl rfl rfl (by kernel_rfl) (fun _ _ _ h => h) hS ?_
    refine a_skip 20 rfl rfl rfl (by kernel_rfl) (fun _ _ _ h => h) hS ?_
    refine a_skip 21 rfl rfl rfl (by kernel_rfl) (fun _ _ _ h => h) hS ?_
    refine a_skip 22 rfl rfl rfl (by kernel_rfl) (fun _ _ _ h => h) hS ?_
    refine a_skip 23 rfl rfl rfl (by kernel_rfl) (fun _ _ _ h => h) hS ?_
    refine a_skip 24 rfl rfl rfl (by kernel_rfl) (fun _ _ _ h => h) hS ?_
    refine a_p 25 tK rfl rfl rfl rfl (by kernel_rfl) (fun _ _ _ h => h) hS ?_
    refine a_end (by kernel_rfl) ?_
    refine x_seq (c_ifT rfl (q0 (l_p 1 tK rfl (q1 (c_ret (x_seqR (x_ret1 rfl rfl ?_)))))))
    refine ⟨?_, hE⟩
    have hA : ((hasB p 111 || ((hasB p 110 == isWordB t.name) && (hasB p 110 || decide (t.name = ⟨#[]⟩))))) = false := by
     simp_all
    unfold partsB
    rw [hA1, hA]
    simp
   refine a_p 12 tK rfl rfl rfl rfl (by kernel_rfl) (fun _ _ _ h => h) hS ?_
   refine a_bar 13 rfl (by kernel_rfl) (by kernel_rfl) (o_call fo49 rfl rfl rfl (hasR_spec p hp 111 _) ?_)
   rintro _ _ ⟨rfl, rfl⟩
   refine a_p 14 tK rfl rfl rfl rfl (by kernel_rfl) (fun _ _ _ h => h) hS ?_
   refine a_p 15 tK rfl rfl rfl rfl (by kernel_rfl) (fun _ _ _ h => h) hS ?_
   refine a_splitB 56 _ rfl (fun c16 => ?_) (fun c16 => ?_)
   ·refine a_p 16 tK rfl rfl rfl rfl (by kernel_rfl) (fun _ _ _ h => h) hS ?_
    refine a_bar 17 rfl (by kernel_rfl) (by kernel_rfl) (o_call fo49 rfl rfl rfl (hasR_spec p hp 110 _) ?_)
    rintro _ _ ⟨rfl, rfl⟩
    refine a_p 18 tK rfl rfl rfl rfl (by kernel_rfl) (fun _ _ _ h => h) hS ?_
    refine a_p 19 tK rfl rfl rfl rfl (by kernel_rfl) (fun _ _ _ h => h) hS ?_
    refine a_p 20 tK rfl rfl rfl rfl (by kernel_rfl) (fun _ _ _ h => h) hS ?_
    refine a_splitB 61 _ rfl (fun c17 => ?_) (fun c17 => ?_)
    ·refine a_p 21 tK rfl rfl rfl rfl (by kernel_rfl) (fun _ _ _ h => h) hS ?_
     refine a_ld 22 tK (fun _ hs => (D_h2.ext hs).cell 1 _ rfl) rfl rfl rfl rfl rfl rfl (by kernel_rfl) (fun _ _ _ h => h) hS ?_
     refine a_p 23 tK rfl rfl rfl rfl (by kernel_rfl) (fun _ _ _ h => h) hS ?_
     refine a_p 24 tK rfl rfl rfl rfl (by kernel_rfl) (fun _ _ _ h => h) hS ?_
     refine a_p 25 tK rfl rfl rfl rfl (by kernel_rfl) (fun _ _ _ h => h) hS ?_
     refine a_end (by kernel_rfl) ?_
     refine x_seq ?_
     refine c_ifN _ rfl (fun c18 => ?_) (fun c18 => ?_)
     ·refine q0 (l_p 1 tK rfl (q1 (c_ret (x_seqR (x_ret1 rfl rfl ?_)))))
      refine ⟨?_, hE⟩
      have hA : ((hasB p 111 || ((hasB p 110 == isWordB t.name) && (hasB p 110 || decide (t.name = ⟨#[]⟩))))) = false := by
       simp_all
      unfold partsB
      rw [hA1, hA]
      simp
     refine c_skip ?_
     have hA : (hasB p 111 || ((hasB p 110 == isWordB t.name) && (hasB p 110 || decide (t.name = ⟨#[]⟩)))) = true := by
      simp_all
     exact x_cut (()) (s2 rfl rfl) ⟨hA, h2, ha, hlow, hE, hB⟩
    refine a_skip 21 rfl rfl rfl (by kernel_rfl) (fun _ _ _ h => h) hS ?_
    refine a_skip 22 rfl rfl rfl (by kernel_rfl) (fun _ _ _ h => h) hS ?_
    refine a_skip 23 rfl rfl rfl (by kernel_rfl) (fun _ _ _ h => h) hS ?_
    refine a_p 24 tK rfl rfl rfl rfl (by kernel_rfl) (fun _ _ _ h => h) hS ?_
    refine a_p 25 tK rfl rfl rfl rfl (by kernel_rfl) (fun _ _ _ h => h) hS ?_
    refine a_end (by kernel_rfl) ?_
    refine x_seq (c_ifF rfl (c_skip ?_))
    have hA : (hasB p 111 || ((hasB p 110 == isWordB t.name) && (hasB p 110 || decide (t.name = ⟨#[]⟩)))) = true := by
     simp_all
    exact x_cut (()) (s2 rfl rfl) ⟨hA, h2, ha, hlow, hE, hB⟩
   refine a_skip 16 rfl rfl rfl (by kernel_rfl) (fun _ _ _ h => h) hS ?_
   refine a_skip 17 rfl rfl rfl (by kernel_rfl) (fun _ _ _ h => h) hS ?_
   refine a_skip 18 rfl rfl rfl (by kernel_rfl) (fun _ _ _ h => h) hS ?_
   refine a_p 19 tK rfl rfl rfl rfl (by kernel_rfl) (fun _ _ _ h => h) hS ?_
   refine a_p 20 tK rfl rfl rfl rfl (by kernel_rfl) (fun _ _ _ h => h) hS ?_
   refine a_skip 21 rfl rfl rfl (by kernel_rfl) (fun _ _ _ h => h) hS ?_
   refine a_skip 22 rfl rfl rfl (by kernel_rfl) (fun _ _ _ h => h) hS ?_
   refine a_skip 23 rfl rfl rfl (by kernel_rfl) (fun _ _ _ h => h) hS ?_
   refine a_p 24 tK rfl rfl rfl rfl (by kernel_rfl) (fun _ _ _ h => h) hS ?_
   refine a_p 25 tK rfl rfl rfl rfl (by kernel_rfl) (fun _ _ _ h => h) hS ?_
   refine a_end (by kernel_rfl) ?_
   refine x_seq (c_ifF rfl (c_skip ?_))
   have hA : (hasB p 111 || ((hasB p 110 == isWordB t.name) && (hasB p 110 || decide (t.name = ⟨#[]⟩)))) = true := by
    simp_all
   exact x_cut (()) (s2 rfl rfl) ⟨hA, h2, ha, hlow, hE, hB⟩
  refine a_skip 4 rfl rfl rfl (by kernel_rfl) (fun _ _ _ h => h) hS ?_
  refine a_skip 5 rfl rfl rfl (by kernel_rfl) (fun _ _ _ h => h) hS ?_
  refine a_skip 6 rfl rfl rfl (by kernel_rfl) (fun _ _ _ h => h) hS ?_
  refine a_skip 7 rfl rfl rfl (by kernel_rfl) (fun _ _ _ h => h) hS ?_
  refine a_skip 8 rfl rfl rfl (by kernel_rfl) (fun _ _ _ h => h) hS ?_
  refine a_skip 9 rfl rfl rfl (by kernel_rfl) (fun _ _ _ h => h) hS ?_
  refine a_p 10 tK rfl rfl rfl rfl (by kernel_rfl) (fun _ _ _ h => h) hS ?_
  refine a_p 11 tK rfl rfl rfl rfl (by kernel_rfl) (fun _ _ _ h => h) hS ?_
  refine a_p 12 tK rfl rfl rfl rfl (by kernel_rfl) (fun _ _ _ h => h) hS ?_
  refine a_bar 13 rfl (by kernel_rfl) (by kernel_rfl) (o_call fo49 rfl rfl rfl (hasR_spec p hp 111 _) ?_)
  rintro _ _ ⟨rfl, rfl⟩
  refine a_p 14 tK rfl rfl rfl rfl (by kernel_rfl) (fun _ _ _ h => h) hS ?_
  refine a_p 15 tK rfl rfl rfl rfl (by kernel_rfl) (fun _ _ _ h => h) hS ?_
  refine a_splitB 56 _ rfl (fun c19 => ?_) (fun c19 => ?_)
  ·refine a_p 16 tK rfl rfl rfl rfl (by kernel_rfl) (fun _ _ _ h => h) hS ?_
   refine a_bar 17 rfl (by kernel_rfl) (by kernel_rfl) (o_call fo49 rfl rfl rfl (hasR_spec p hp 110 _) ?_)
   rintro _ _ ⟨rfl, rfl⟩
   refine a_p 18 tK rfl rfl rfl rfl (by kernel_rfl) (fun _ _ _ h => h) hS ?_
   refine a_p 19 tK rfl rfl rfl rfl (by kernel_rfl) (fun _ _ _ h => h) hS ?_
   refine a_p 20 tK rfl rfl rfl rfl (by kernel_rfl) (fun _ _ _ h => h) hS ?_
   refine a_splitB 61 _ rfl (fun c20 => ?_) (fun c20 => ?_)
   ·refine a_p 21 tK rfl rfl rfl rfl (by kernel_rfl) (fun _ _ _ h => h) hS ?_
    refine a_ld 22 tK (fun _ hs => (D_h2.ext hs).cell 1 _ rfl) rfl rfl rfl rfl rfl rfl (by kernel_rfl) (fun _ _ _ h => h) hS ?_
    refine a_p 23 tK rfl rfl rfl rfl (by kernel_rfl) (fun _ _ _ h => h) hS ?_
    refine a_p 24 tK rfl rfl rfl rfl (by kernel_rfl) (fun _ _ _ h => h) hS ?_
    refine a_p 25 tK rfl rfl rfl rfl (by kernel_rfl) (fun _ _ _ h => h) hS ?_
    refine a_end (by kernel_rfl) ?_
    refine x_seq ?_
    refine c_ifN _ rfl (fun c21 => ?_) (fun c21 => ?_)
    ·refine q0 (l_p 1 tK rfl (q1 (c_ret (x_seqR (x_ret1 rfl rfl ?_)))))
     refine ⟨?_, hE⟩
     have hA : ((hasB p 111 || ((hasB p 110 == isWordB t.name) && (hasB p 110 || decide (t.name = ⟨#[]⟩))))) = false := by
      simp_all
     unfold partsB
     rw [hA1, hA]
     simp
    refine c_skip ?_
    have hA : (hasB p 111 || ((hasB p 110 == isWordB t.name) && (hasB p 110 || decide (t.name = ⟨#[]⟩)))) = true := by
     simp_all
    exact x_cut (()) (s2 rfl rfl) ⟨hA, h2, ha, hlow, hE, hB⟩
   refine a_skip 21 rfl rfl rfl (by kernel_rfl) (fun _ _ _ h => h) hS ?_
   refine a_skip 22 rfl rfl rfl (by kernel_rfl) (fun _ _ _ h => h) hS ?_
   refine a_skip 23 rfl rfl rfl (by kernel_rfl) (fun _ _ _ h => h) hS ?_
   refine a_p 24 tK rfl rfl rfl rfl (by kernel_rfl) (fun _ _ _ h => h) hS ?_
   refine a_p 25 tK rfl rfl rfl rfl (by kernel_rfl) (fun _ _ _ h => h) hS ?_
   refine a_end (by kernel_rfl) ?_
   refine x_seq (c_ifF rfl (c_skip ?_))
   have hA : (hasB p 111 || ((hasB p 110 == isWordB t.name) && (hasB p 110 || decide (t.name = ⟨#[]⟩)))) = true := by
    simp_all
   exact x_cut (()) (s2 rfl rfl) ⟨hA, h2, ha, hlow, hE, hB⟩
  refine a_skip 16 rfl rfl rfl (by kernel_rfl) (fun _ _ _ h => h) hS ?_
  refine a_skip 17 rfl rfl rfl (by kernel_rfl) (fun _ _ _ h => h) hS ?_
  refine a_skip 18 rfl rfl rfl (by kernel_rfl) (fun _ _ _ h => h) hS ?_
  refine a_p 19 tK rfl rfl rfl rfl (by kernel_rfl) (fun _ _ _ h => h) hS ?_
  refine a_p 20 tK rfl rfl rfl rfl (by kernel_rfl) (fun _ _ _ h => h) hS ?_
  refine a_skip 21 rfl rfl rfl (by kernel_rfl) (fun _ _ _ h => h) hS ?_
  refine a_skip 22 rfl rfl rfl (by kernel_rfl) (fun _ _ _ h => h) hS ?_
  refine a_skip 23 rfl rfl rfl (by kernel_rfl) (fun _ _ _ h => h) hS ?_
  refine a_p 24 tK rfl rfl rfl rfl (by kernel_rfl) (fun _ _ _ h => h) hS ?_
  refine a_p 25 tK rfl rfl rfl rfl (by kernel_rfl) (fun _ _ _ h => h) hS ?_
  refine a_end (by kernel_rfl) ?_
  refine x_seq (c_ifF rfl (c_skip ?_))
  have hA : (hasB p 111 || ((hasB p 110 == isWordB t.name) && (hasB p 110 || decide (t.name = ⟨#[]⟩)))) = true := by
   simp_all
  exact x_cut (()) (s2 rfl rfl) ⟨hA, h2, ha, hlow, hE, hB⟩
 clear h2 ha hlow hE hB
 rintro _ w82 ⟨hA2, h2, ha, hlow, hE, hB⟩
 refine c_cut (X := Unit) (fun _u => [(1, .string p), (2, .pointer (some ⟨b2, 0, none⟩))]) (fun _u w' => ((hasB p 97 == isWordB t.arg) && (hasB p 97 || decide (t.arg = ⟨#[]⟩))) = true ∧ At M w' b2 0 [.int .u8 t.op, .string t.name, .string t.arg, .int .i64 t.n, .bool t.has, .int .u8 t.ann.op, .string t.ann.name, .int .i64 t.ann.n, akv, kv] ∧ Rep.R M w' (.agg #[.int .u8 t.ann.op, .string t.ann.name, .int .i64 t.ann.n, akv]) t.ann ∧ Low M w' ∧ Below w.heap.size w w' ∧ w.heap.size ≤ w'.heap.size) ?_ ?_
 ·refine c_seq ?_
  refine a_beg Ext rfl ?_
  intro w5 ew5
  replace hE := ew5.bl hE hB
  replace h2 := h2.ext ew5
  replace ha := Rep.ext ha ew5
  replace hlow := hlow.ext ew5
  replace hB := ew5.z hB
  have hS : Ext w5 w5 := ext_refl _
  have D_h2 := h2
  refine a_p 0 tK rfl rfl rfl rfl (by kernel_rfl) (fun _ _ _ h => h) hS ?_
  refine a_p 2 tK rfl rfl rfl rfl (by kernel_rfl) (fun _ _ _ h => h) hS ?_
  refine a_ld 3 tK (fun _ hs => (D_h2.ext hs).cell 2 _ rfl) rfl rfl rfl rfl rfl rfl (by kernel_rfl) (fun _ _ _ h => h) hS ?_
  refine a_one 1 rfl (by kernel_rfl) (o_call fo49 rfl rfl rfl (hasR_spec p hp 97 _) ?_)
  rintro _ _ ⟨rfl, rfl⟩
  refine ⟨hS, ?_⟩
  refine a_bar 4 rfl (by kernel_rfl) (by kernel_rfl) (o_call fo50 rfl rfl rfl (risWord_spec M _ _ (by first | exact nm | exact ag) hlow) ?_)
  rintro _ w6 ⟨rfl, ew6⟩
  replace hS := hS.then ew6
  replace hE := ew6.bl hE hB
  replace h2 := h2.ext ew6
  replace ha := Rep.ext ha ew6
  replace hlow := hlow.ext ew6
  replace hB := ew6.z hB
  refine a_bar 5 rfl (by kernel_rfl) (by kernel_rfl) (o_bne tK rfl rfl rfl rfl rfl rfl ?_)
  refine a_p 6 tK rfl rfl rfl rfl (by kernel_rfl) (fun _ _ _ h => h) hS ?_
  refine a_split 73 _ rfl (fun c22 => ?_) (fun c22 => ?_)
  ·refine a_skip 7 rfl rfl rfl (by kernel_rfl) (fun _ _ _ h => h) hS ?_
   refine a_skip 8 rfl rfl rfl (by kernel_rfl) (fun _ _ _ h => h) hS ?_
   refine a_skip 9 rfl rfl rfl (by kernel_rfl) (fun _ _ _ h => h) hS ?_
   refine a_skip 10 rfl rfl rfl (by kernel_rfl) (fun _ _ _ h => h) hS ?_
   refine a_skip 11 rfl rfl rfl (by kernel_rfl) (fun _ _ _ h => h) hS ?_
   refine a_skip 12 rfl rfl rfl (by kernel_rfl) (fun _ _ _ h => h) hS ?_
   refine a_skip 13 rfl rfl rfl (by kernel_rfl) (fun _ _ _ h => h) hS ?_
   refine a_skip 14 rfl rfl rfl (by kernel_rfl) (fun _ _ _ h => h) hS ?_
   refine a_p 15 tK rfl rfl rfl rfl (by kernel_rfl) (fun _ _ _ h => h) hS ?_
   refine a_end (by kernel_rfl) ?_
   refine x_seq (c_ifT rfl (q0 (l_p 1 tK rfl (q1 (c_ret (x_seqR (x_ret1 rfl rfl ?_)))))))
   refine ⟨?_, hE⟩
   have hA : (((hasB p 97 == isWordB t.arg) && (hasB p 97 || decide (t.arg = ⟨#[]⟩)))) = false := by
    simp_all
   unfold partsB
   rw [hA1, hA2, hA]
   simp
  refine a_p 7 tK rfl rfl rfl rfl (by kernel_rfl) (fun _ _ _ h => h) hS ?_
  refine a_bar 8 rfl (by kernel_rfl) (by kernel_rfl) (o_call fo49 rfl rfl rfl (hasR_spec p hp 97 _) ?_)
  rintro _ _ ⟨rfl, rfl⟩
  refine a_p 9 tK rfl rfl rfl rfl (by kernel_rfl) (fun _ _ _ h => h) hS ?_
  refine a_p 10 tK rfl rfl rfl rfl (by kernel_rfl) (fun _ _ _ h => h) hS ?_
  refine a_splitB 77 _ rfl (fun c23 => ?_) (fun c23 => ?_)
  ·refine a_p 11 tK rfl rfl rfl rfl (by kernel_rfl) (fun _ _ _ h => h) hS ?_
   refine a_ld 12 tK (fun _ hs => (D_h2.ext hs).cell 2 _ rfl) rfl rfl rfl rfl rfl rfl (by kernel_rfl) (fun _ _ _ h => h) hS ?_
   refine a_p 13 tK rfl rfl rfl rfl (by kernel_rfl) (fun _ _ _ h => h) hS ?_
   refine a_p 14 tK rfl rfl rfl rfl (by kernel_rfl) (fun _ _ _ h => h) hS ?_
   refine a_p 15 tK rfl rfl rfl rfl (by kernel_rfl) (fun _ _ _ h => h) hS ?_
   refine a_end (by kernel_rfl) ?_
   refine x_seq ?_
   refine c_ifN _ rfl (fun c24 => ?_) (fun c24 => ?_)
   ·refine q0 (l_p 1 tK rfl (q1 (c_ret (x_seqR (x_ret1 rfl rfl ?_)))))
    refine ⟨?_, hE⟩
    have hA : (((hasB p 97 == isWordB t.arg) && (hasB p 97 || decide (t.arg = ⟨#[]⟩)))) = false := by
     simp_all
    unfold partsB
    rw [hA1, hA2, hA]
    simp
   refine c_skip ?_
   have hA : ((hasB p 97 == isWordB t.arg) && (hasB p 97 || decide (t.arg = ⟨#[]⟩))) = true := by
    simp_all
   exact x_cut (()) (s2 rfl rfl) ⟨hA, h2, ha, hlow, hE, hB⟩
  refine a_skip 11 rfl rfl rfl (by kernel_rfl) (fun _ _ _ h => h) hS ?_
  refine a_skip 12 rfl rfl rfl (by kernel_rfl) (fun _ _ _ h => h) hS ?_
  refine a_skip 13 rfl rfl rfl (by kernel_rfl) (fun _ _ _ h => h) hS ?_
  refine a_p 14 tK rfl rfl rfl rfl (by kernel_rfl) (fun _ _ _ h => h) hS ?_
  refine a_p 15 tK rfl rfl rfl rfl (by kernel_rfl) (fun _ _ _ h => h) hS ?_
  refine a_end (by kernel_rfl) ?_
  refine x_seq (c_ifF rfl (c_skip ?_))
  have hA : ((hasB p 97 == isWordB t.arg) && (hasB p 97 || decide (t.arg = ⟨#[]⟩))) = true := by
   simp_all
  exact x_cut (()) (s2 rfl rfl) ⟨hA, h2, ha, hlow, hE, hB⟩
 clear h2 ha hlow hE hB
 rintro _ w83 ⟨hA3, h2, ha, hlow, hE, hB⟩
 refine c_cut (X := Unit) (fun _u => [(1, .string p), (2, .pointer (some ⟨b2, 0, none⟩))]) (fun _u w' => (decide (0 ≤ t.n) && (!decide (0 < t.n) || (hasB p 105 || (hasB p 98 && decide (t.n = 1))))) = true ∧ At M w' b2 0 [.int .u8 t.op, .string t.name, .string t.arg, .int .i64 t.n, .bool t.has, .int .u8 t.ann.op, .string t.ann.name, .int .i64 t.ann.n, akv, kv] ∧ Rep.R M w' (.agg #[.int .u8 t.ann.op, .string t.ann.name, .int .i64 t.ann.n, akv]) t.ann ∧ Low M w' ∧ Below w.heap.size w w' ∧ w.heap.size ≤ w'.heap.size) ?_ ?_
 ·refine q0 (l_p 1 tK rfl ?_)
  refine lC (o_ld tK (h2.cell 3 _ rfl) rfl rfl rfl rfl rfl ?_)
  refine l_p 2 tK rfl ?_
  refine l_splitP 86 _ rfl (fun c25 => ?_) (fun c25 => ?_)
  ·refine l_p 19 tK rfl (q1 (c_ifT rfl (q0 (l_p 1 tK rfl (q1 (c_ret (x_seqR (x_ret1 rfl rfl ?_))))))))
   refine ⟨?_, hE⟩
   have hA : ((decide (0 ≤ t.n) && (!decide (0 < t.n) || (hasB p 105 || (hasB p 98 && decide (t.n = 1)))))) = false := by
    simp_all <;> omega
   unfold partsB
   rw [hA1, hA2, hA3, hA]
   simp
  refine l_p 1 tK rfl ?_
  refine lC (o_ld tK (h2.cell 3 _ rfl) rfl rfl rfl rfl rfl ?_)
  refine l_p 2 tK rfl ?_
  refine l_splitP 90 _ rfl (fun c26 => ?_) (fun c26 => ?_)
  ·refine l_p 1 tK rfl ?_
   refine lC (o_call fo49 rfl rfl rfl (hasR_spec p hp 105 _) ?_)
   rintro _ _ ⟨rfl, rfl⟩
   refine l_p 3 tK rfl ?_
   refine l_splitB 95 _ rfl (fun c27 => ?_) (fun c27 => ?_)
   ·refine l_p 1 tK rfl ?_
    refine lC (o_call fo49 rfl rfl rfl (hasR_spec p hp 98 _) ?_)
    rintro _ _ ⟨rfl, rfl⟩
    refine l_p 1 tK rfl ?_
    refine l_split 98 _ rfl (fun c28 => ?_) (fun c28 => ?_)
    ·refine l_p 1 tK rfl ?_
     refine lC (o_ld tK (h2.cell 3 _ rfl) rfl rfl rfl rfl rfl ?_)
     refine l_p 5 tK rfl (q1 ?_)
     refine c_ifN _ rfl (fun c29 => ?_) (fun c29 => ?_)
     ·refine q0 (l_p 1 tK rfl (q1 (c_ret (x_seqR (x_ret1 rfl rfl ?_)))))
      refine ⟨?_, hE⟩
      have hA : ((decide (0 ≤ t.n) && (!decide (0 < t.n) || (hasB p 105 || (hasB p 98 && decide (t.n = 1)))))) = false := by
       simp_all <;> omega
      unfold partsB
      rw [hA1, hA2, hA3, hA]
      simp
     refine c_skip ?_
     have hA : (decide (0 ≤ t.n) && (!decide (0 < t.n) || (hasB p 105 || (hasB p 98 && decide (t.n = 1))))) = true := by
      simp_all <;> omega
     exact x_cut (()) (s2 rfl rfl) ⟨hA, h2, ha, hlow, hE, hB⟩
    refine l_p 7 tK rfl (q1 (c_ifT rfl (q0 (l_p 1 tK rfl (q1 (c_ret (x_seqR (x_ret1 rfl rfl ?_))))))))
    refine ⟨?_, hE⟩
    have hA : ((decide (0 ≤ t.n) && (!decide (0 < t.n) || (hasB p 105 || (hasB p 98 && decide (t.n = 1)))))) = false := by
     simp_all <;> omega
    unfold partsB
    rw [hA1, hA2, hA3, hA]
    simp
   refine l_p 10 tK rfl (q1 (c_ifF rfl (c_skip ?_)))
   have hA : (decide (0 ≤ t.n) && (!decide (0 < t.n) || (hasB p 105 || (hasB p 98 && decide (t.n = 1))))) = true := by
    simp_all <;> omega
   exact x_cut (()) (s2 rfl rfl) ⟨hA, h2, ha, hlow, hE, hB⟩
  refine l_p 15 tK rfl (q1 (c_ifF rfl (c_skip ?_)))
  have hA : (decide (0 ≤ t.n) && (!decide (0 < t.n) || (hasB p 105 || (hasB p 98 && decide (t.n = 1))))) = true := by
   simp_all <;> omega
  exact x_cut (()) (s2 rfl rfl) ⟨hA, h2, ha, hlow, hE, hB⟩
 clear h2 ha hlow hE hB
 rintro _ w84 ⟨hA4, h2, ha, hlow, hE, hB⟩
 refine c_seq (q0 (l_p 1 tK rfl ?_))
 refine lC (o_ld tK (h2.cell 4 _ rfl) rfl rfl rfl rfl rfl ?_)
 refine l_p 1 tK rfl (q1 ?_)
 refine c_ifB _ rfl (fun c30 => ?_) (fun c30 => ?_)
 ·refine q0 (l_p 1 tK rfl ?_)
  refine lC (o_call fo49 rfl rfl rfl (hasR_spec p hp 84 _) ?_)
  rintro _ _ ⟨rfl, rfl⟩
  refine l_p 2 tK rfl ?_
  refine l_splitB 112 _ rfl (fun c31 => ?_) (fun c31 => ?_)
  ·refine l_p 1 tK rfl ?_
   refine lC (o_lds tK (fun j v hv => (h2).mid 5 (sub := [.int .u8 t.ann.op, .string t.ann.name, .int .i64 t.ann.n, akv]) rfl j v hv) rfl rfl rfl rfl rfl rfl ?_)
   refine lC (o_call fo51 rfl rfl rfl (zero_spec _ _ _ _ ha hlow) ?_)
   rintro _ w7 ⟨rfl, ew7⟩
   replace hE := ew7.bl hE hB
   replace h2 := h2.ext ew7
   replace ha := Rep.ext ha ew7
   replace hlow := hlow.ext ew7
   replace hB := ew7.z hB
   refine l_p 2 tK rfl (q1 (c_ret (x_seqR (x_ret1 rfl rfl ?_))))
   refine ⟨?_, hE⟩
   unfold partsB
   rw [hA1, hA2, hA3, hA4]
   simp_all
  refine l_p 5 tK rfl (q1 (c_ret (x_seqR (x_ret1 rfl rfl ?_))))
  refine ⟨?_, hE⟩
  unfold partsB
  rw [hA1, hA2, hA3, hA4]
  simp_all
 refine c_skip (x_seq (q0 (l_p 1 tK rfl ?_)))
 refine lC (o_call fo49 rfl rfl rfl (hasR_spec p hp 84 _) ?_)
 rintro _ _ ⟨rfl, rfl⟩
 refine l_p 1 tK rfl ?_
 refine l_split 119 _ rfl (fun c32 => ?_) (fun c32 => ?_)
 ·refine l_p 5 tK rfl ?_
  refine lC (o_lds tK (fun j v hv => (h2).mid 5 (sub := [.int .u8 t.ann.op, .string t.ann.name, .int .i64 t.ann.n, akv]) rfl j v hv) rfl rfl rfl rfl rfl rfl ?_)
  refine lC (o_call fo52 rfl rfl rfl (refRight_spec _ _ _ _ ha hlow hz) ?_)
  rintro _ w8 ⟨rfl, ew8⟩
  replace hE := ew8.bl hE hB
  replace h2 := h2.ext ew8
  replace ha := Rep.ext ha ew8
  replace hlow := hlow.ext ew8
  replace hB := ew8.z hB
  refine l_p 2 tK rfl ?_
  refine l_split 128 _ rfl (fun c33 => ?_) (fun c33 => ?_)
  ·refine l_p 1 tK rfl ?_
   refine lC (o_lds tK (fun j v hv => (h2).mid 5 (sub := [.int .u8 t.ann.op, .string t.ann.name, .int .i64 t.ann.n, akv]) rfl j v hv) rfl rfl rfl rfl rfl rfl ?_)
   have hsh : shapeF t.ann 116 = true := by
    have h9 : rightB t.ann = true := by assumption
    unfold rightB at h9; simp_all
   refine lC (o_call fo53 rfl rfl rfl (refVars_spec t.ann 116 _ _ _ hsh ha hlow hz) ?_)
   rintro vhv w9 ⟨hv, ew9⟩
   replace hE := ew9.bl hE hB
   replace h2 := h2.ext ew9
   replace ha := Rep.ext ha ew9
   replace hlow := hlow.ext ew9
   replace hB := ew9.z hB
   refine lC (o_len tK hv rfl rfl rfl rfl rfl ?_)
   refine l_p 3 tK rfl (q1 (c_ret (x_ret1 rfl rfl ?_)))
   refine ⟨?_, hE⟩
   unfold partsB
   rw [hA1, hA2, hA3, hA4]
   simp_all
  refine l_p 7 tK rfl (q1 (c_ret (x_ret1 rfl rfl ?_)))
  refine ⟨?_, hE⟩
  unfold partsB
  rw [hA1, hA2, hA3, hA4]
  simp_all
 refine l_p 1 tK rfl ?_
 refine lC (o_call fo49 rfl rfl rfl (hasR_spec p hp 116 _) ?_)
 rintro _ _ ⟨rfl, rfl⟩
 refine l_p 2 tK rfl ?_
 refine l_split 123 _ rfl (fun c34 => ?_) (fun c34 => ?_)
 ·refine l_p 1 tK rfl ?_
  refine lC (o_lds tK (fun j v hv => (h2).mid 5 (sub := [.int .u8 t.ann.op, .string t.ann.name, .int .i64 t.ann.n, akv]) rfl j v hv) rfl rfl rfl rfl rfl rfl ?_)
  refine lC (o_call fo52 rfl rfl rfl (refRight_spec _ _ _ _ ha hlow hz) ?_)
  rintro _ w10 ⟨rfl, ew10⟩
  replace hE := ew10.bl hE hB
  replace h2 := h2.ext ew10
  replace ha := Rep.ext ha ew10
  replace hlow := hlow.ext ew10
  replace hB := ew10.z hB
  refine l_p 2 tK rfl ?_
  refine l_split 128 _ rfl (fun c35 => ?_) (fun c35 => ?_)
  ·refine l_p 1 tK rfl ?_
   refine lC (o_lds tK (fun j v hv => (h2).mid 5 (sub := [.int .u8 t.ann.op, .string t.ann.name, .int .i64 t.ann.n, akv]) rfl j v hv) rfl rfl rfl rfl rfl rfl ?_)
   have hsh : shapeF t.ann 116 = true := by
    have h9 : rightB t.ann = true := by assumption
    unfold rightB at h9; simp_all
   refine lC (o_call fo53 rfl rfl rfl (refVars_spec t.ann 116 _ _ _ hsh ha hlow hz) ?_)
   rintro vhv w11 ⟨hv, ew11⟩
   replace hE := ew11.bl hE hB
   replace h2 := h2.ext ew11
   replace ha := Rep.ext ha ew11
   replace hlow := hlow.ext ew11
   replace hB := ew11.z hB
   refine lC (o_len tK hv rfl rfl rfl rfl rfl ?_)
   refine l_p 3 tK rfl (q1 (c_ret (x_ret1 rfl rfl ?_)))
   refine ⟨?_, hE⟩
   unfold partsB
   rw [hA1, hA2, hA3, hA4]
   simp_all
  refine l_p 7 tK rfl (q1 (c_ret (x_ret1 rfl rfl ?_)))
  refine ⟨?_, hE⟩
  unfold partsB
  rw [hA1, hA2, hA3, hA4]
  simp_all
 refine l_p 12 tK rfl (q1 (c_ret (x_ret1 rfl rfl ?_)))
 refine ⟨?_, hE⟩
 unfold partsB
 rw [hA1, hA2, hA3, hA4]
 simp_all
end Go.Proofs.YtohfnpmehgpphaaGreat
namespace Go.Proofs.YtohfnpmehgpphaaGreat
open Go Rw Go.RowKit
set_option maxRecDepth 100000
theorem keys_spec (b : Nat) (w : World) : Calls Tryz.prog 36 #[.map (some b)] w (Ret fun r w' => r = .func (.func 62) #[] #[.pointer (some ⟨w.heap.size, 0, none⟩)] ∧ w' = w.alloc (.cells #[.map (some b)] 50) ∧ Ext w w') :=
 (callsIn_wide.1 (Tryz.maps_Keys_36 (some b) w)).mono (fun e w' h => h.1 ▸ ⟨rfl, h.2, h.2 ▸ ext_alloc _ _⟩)
theorem sorted_spec (b : Nat) (l : List (ByteArray × Bool)) (w w2 : World) (hw2 : w2 = w.alloc (.cells #[.map (some b)] 50)) (hm : MapL (fun x : Bool => Value.bool x) w b l) (hn : NK 1000000000 l) (M : Nat → Prop) (hlow : Low M w2) :
  Calls Tryz.prog 35 #[.func (.func 62) #[] #[.pointer (some ⟨w.heap.size, 0, none⟩)]] w2 (Ret fun r w' => Sl M w' r (sortB (l.map (·.1))) ∧ Ext w2 w') := by
 obtain ⟨D, hown, hsz, hpm⟩ := maps_own (k := 9) (P := Tryz.prog) Tryz.underlying9 hm (by have := hn.1; simp only [maxLen]; omega) (fun p hp => by have := hn.2 p hp; simp only [maxLen]; omega)
 have hc := callsIn_wide.1 (Tryz.slices_Sorted_keys_35_36 b _ D _ w hown (by have := hn.1; simp only [maxLen]; omega) (by have := hn.1; omega))
 rw [← hw2] at hc
 refine hc.mono ?_
 rintro _ w' ⟨v, ss, rfl, hss, hrow, _, hE⟩
 have hpp : ss.Perm ((l.map (·.1)).map (·.data.toList)) := by rw [List.map_map]; exact hss.trans hpm
 have hsort : (ss.mergeSort leB).map strT = sortB (l.map (·.1)) := sort_of_perm hpp
 have hlen : (sortB (l.map (·.1))).length = ss.length := by rw [← hsort, List.length_map, List.length_mergeSort]
 have hll : ss.length = l.length := by rw [hpp.length_eq]; simp
 refine ⟨row_texts (B := w2.heap.size) (e := 9) ?_ (by have := hn.1; omega) (fun x hx => ?_) hlow, hE⟩
 ·rw [hlen, ← hsort, List.map_map]
  exact hrow
 ·obtain ⟨p, hp, rfl⟩ := List.mem_map.1 ((sortB_perm _).mem_iff.1 hx)
  exact hn.2 p hp
theorem free_spec (t : Tm) (M : Nat → Prop) (w : World) (v : Value) (ht : Rep.R M w v t) (hlow0 : Low M w) (hz : AnnS t) (hn9 : nsz t ≤ 400000000) :
  Calls Tryz.prog 18 #[v] w (Ret fun r w' => Sl M w' r (bif rightT t false then freeS t else []) ∧ Ext w w') := by
 have hnk := (NK.down t (rep_names t ht) 0 ([], []) ⟨Nat.le_refl _, fun p hp => by cases hp⟩).mono (m := 1000000000) (by omega)
 have hlow := hlow0
 have hB : w.heap.size ≤ w.heap.size := Nat.le_refl _
 have hE : Below w.heap.size w w := Below.refl _ _
 have hsub : ∀ b, M b → M b := fun _ h => h
 obtain ⟨akv, kv, rfl, op, nm, ag, n64, ha, hk⟩ := tm_open ht
 refine c_enter (n := 16) Tryz.func18 rfl rfl rfl ?_
 refine q0 ?_
 refine lC (o_box rfl rfl rfl ?_)
 intro b1 w1 hb_b1 ew1 h1
 replace h1 : Box _ b1 28 [.int .u8 t.op, .string t.name, .string t.arg, .int .i64 t.n, .bool t.has, .int .u8 t.ann.op, .string t.ann.name, .int .i64 t.ann.n, akv, kv] := h1
 replace h1 := h1.at (nM_of hlow hb_b1)
 replace hE := ew1.bl hE hB
 replace ht := Rep.ext ht ew1
 replace ha := Rep.ext ha ew1
 replace hk := hk.ext ew1
 replace hlow := hlow.ext ew1
 replace hB := ew1.z hB
 refine l_p 1 tK rfl (q1 (c_seq (q0 ?_)))
 refine lC (o_lds tK (fun j v hv => h1.cell j v hv) rfl rfl rfl rfl rfl rfl ?_)
 refine lC (o_call fo9 rfl rfl rfl (tRight_spec t _ _ _ ht hlow hz) ?_)
 rintro _ w2 ⟨rfl, ew2⟩
 replace hE := ew2.bl hE hB
 replace ht := Rep.ext ht ew2
 replace ha := Rep.ext ha ew2
 replace hk := hk.ext ew2
 replace h1 := h1.ext ew2
 replace hlow := hlow.ext ew2
 replace hB := ew2.z hB
 refine l_p 1 tK rfl (q1 ?_)
 refine c_ifB _ rfl (fun hr => ?_) (fun hr => ?_)
 ·refine q0 (l_p 1 tK rfl (q1 (c_ret (x_seqR (x_ret1 rfl rfl ?_)))))
  exact ⟨by rw [show rightT t false = false by simpa using hr]; exact sl_nil, hE⟩
 refine c_skip (x_seq (q0 ?_))
 refine lC (o_mkmap (κ := ByteArray) (ν := Int) (va := (fun x : Int => Value.int .i64 x)) rfl rfl ?_)
 intro bm w3 qbm ew3 ltbm hbm
 have sw3 := Stp.add ew3 hlow hB (Nat.le_of_eq qbm.symm) ltbm
 have hm : OM (κ := ByteArray) (fun x : Int => Value.int .i64 x) w.heap.size (Rw.Add M bm) w3 bm [] := OM.mk' hbm qbm hB
 replace hE := hE.trans sw3.below
 replace ht := Rep.stp ht sw3
 replace ha := Rep.stp ha sw3
 replace hk := hk.stp sw3
 replace h1 := h1.stp sw3
 replace hsub := sw3.sb hsub
 replace hlow := sw3.low
 replace hB := sw3.z hB
 refine lC (o_mkmap (κ := ByteArray) (ν := Bool) (va := (fun x : Bool => Value.bool x)) rfl rfl ?_)
 intro fm w4 qfm ew4 ltfm hfm
 have ne_hm_hf : bm ≠ fm := by have := hm.lt; omega
 have sw4 := Stp.add ew4 hlow hB (Nat.le_of_eq qfm.symm) ltfm
 have hf : OM (κ := ByteArray) (fun x : Bool => Value.bool x) w.heap.size (Rw.Add (Rw.Add M bm) fm) w4 fm [] := OM.mk' hfm qfm hB
 replace hm := hm.stp sw4 (ew4.block bm hm.lt)
 replace hE := hE.trans sw4.below
 replace ht := Rep.stp ht sw4
 replace ha := Rep.stp ha sw4
 replace hk := hk.stp sw4
 replace h1 := h1.stp sw4
 replace hsub := sw4.sb hsub
 replace hlow := sw4.low
 replace hB := sw4.z hB
 refine lC (o_build (cells := [.map (some bm), .map (some fm)]) (css := [[.map (some bm)], [.map (some fm)]]) bd52 rfl rfl rfl rfl rfl ?_)
 refine lC (o_new tK rfl rfl rfl ?_)
 intro np w5 qnp ew5 hnp
 have nnp := nM_of hlow qnp
 refine lC (o_st tK hnp rfl rfl rfl rfl (by intro u hu; simp [Value.cells] at hu; rcases hu with rfl | rfl <;> rfl) rfl rfl ?_)
 intro w6 hnp uw6 bew6
 have ew6 : Ext w4 w6 := ew5.trans (bew6 _ (Nat.le_of_eq qnp.symm))
 replace hm := hm.ext hlow hB ew6
 replace hf := hf.ext hlow hB ew6
 replace hE := ew6.bl hE hB
 replace ht := Rep.ext ht ew6
 replace ha := Rep.ext ha ew6
 replace hk := hk.ext ew6
 replace h1 := h1.ext ew6
 replace hlow := hlow.ext ew6
 replace hB := ew6.z hB
 replace hnp := hnp.at nnp
 refine q1 (q0 ?_)
 refine lC (o_lds tK (fun j v hv => h1.cell j v hv) rfl rfl rfl rfl rfl rfl ?_)
 refine lC (o_call fo34 rfl rfl rfl (down_spec t 0 ([], []) (Rw.Add (Rw.Add M bm) fm) _ w.heap.size _ np bm fm false (by simpa using hr) ht hnp hm hf (ne_hm_hf) hlow hB (fun s => ⟨Int.le_refl _, Int.le_refl _⟩) (by omega)) ?_)
 rintro _ w7 ⟨rfl, hmw7, hfw7, sw7, kw7⟩
 replace hE := hE.trans sw7.below
 replace ht := Rep.stp ht sw7
 replace ha := Rep.stp ha sw7
 replace hk := hk.stp sw7
 replace h1 := h1.stp sw7
 replace hnp := hnp.stp sw7
 replace hsub := sw7.sb hsub
 replace hlow := sw7.low
 replace hB := sw7.z hB
 replace hm := hmw7
 replace hf := hfw7
 clear hmw7 hfw7
 refine q1 (q0 (l_p 1 tK rfl ?_))
 refine lC (o_ld tK (hnp.cell 1 _ rfl) rfl rfl rfl rfl rfl ?_)
 have hfk := hf.map
 refine lC (o_call fo36 rfl rfl rfl (keys_spec _ _) ?_)
 rintro _ w8 ⟨rfl, hkw8, ew8⟩
 replace hm := hm.ext hlow hB ew8
 replace hf := hf.ext hlow hB ew8
 replace hE := ew8.bl hE hB
 replace ht := Rep.ext ht ew8
 replace ha := Rep.ext ha ew8
 replace hk := hk.ext ew8
 replace h1 := h1.ext ew8
 replace hnp := hnp.ext ew8
 replace hlow := hlow.ext ew8
 replace hB := ew8.z hB
 refine lC (o_call fo35 rfl rfl rfl (sorted_spec fm _ _ _ hkw8 hfk hnk (Rw.Add (Rw.Add M bm) fm) hlow) ?_)
 rintro vhs w9 ⟨hs, ew9⟩
 replace hm := hm.ext hlow hB ew9
 replace hf := hf.ext hlow hB ew9
 replace hE := ew9.bl hE hB
 replace ht := Rep.ext ht ew9
 replace ha := Rep.ext ha ew9
 replace hk := hk.ext ew9
 replace h1 := h1.ext ew9
 replace hnp := hnp.ext ew9
 replace hlow := hlow.ext ew9
 replace hB := ew9.z hB
 refine l_p 1 tK rfl (q1 (c_ret (x_ret1 rfl rfl ?_)))
 refine ⟨?_, hE⟩
 rw [show rightT t false = true by simpa using hr]
 exact hs.wk (fun b hb => hsub b)
theorem texts_spec (l k : List ByteArray) (M : Nat → Prop) (w : World) (v u : Value) (hs : Sl M w v l) (hk : Sl M w u k) :
  Calls Tryz.prog 21 #[v, u] w (Ret fun r w' => r = .bool (decide (l = k)) ∧ Ext w w') := by
 have hE : Below w.heap.size w w := Below.refl _ _
 have hB : w.heap.size ≤ w.heap.size := Nat.le_refl _
 have hlt := hs.lt
 have hkt := hk.lt
 refine c_enter (n := 26) Tryz.func21 rfl rfl rfl ?_
 refine q0 (l_p 1 tK rfl (q1 (c_seq (q0 (l_p 1 tK rfl ?_)))))
 refine lC (o_len tK hs rfl rfl rfl rfl rfl ?_)
 refine l_p 1 tK rfl ?_
 refine lC (o_len tK hk rfl rfl rfl rfl rfl ?_)
 refine l_p 1 tK rfl (q1 ?_)
 refine c_ifN _ rfl (fun c1 => ?_) (fun c1 => ?_)
 ·refine q0 (l_p 1 tK rfl (q1 (c_ret (x_seqR (x_ret1 rfl rfl ?_)))))
  exact ⟨by rw [decide_eq_false (fun e : l = k => by subst e; omega)], hE⟩
 refine c_skip (x_seq (c_seq (q0 (l_p 1 tK rfl (q1 (c_blk ?_))))))
 have hll : l.length = k.length := by omega
 refine c_loop (X := Nat) (fun i => [(0, v), (1, u), (5, .int .i64 (i : Nat))]) (fun i w' => i ≤ l.length ∧ l.take i = k.take i ∧ Sl M w' v l ∧ Sl M w' u k ∧ Below w.heap.size w w' ∧ w.heap.size ≤ w'.heap.size) (fun i => l.length - i) (0) (s3 rfl rfl rfl) ?_ ?_
 ·exact ⟨Nat.zero_le _, rfl, hs, hk, hE, hB⟩
 rintro i w1 ⟨hi, htk, hs, hk, hE, hB⟩
 refine c_seq (q0 (l_p 2 tK rfl ?_))
 refine lC (o_len tK hs rfl rfl rfl rfl rfl ?_)
 refine l_p 1 tK rfl (q1 ?_)
 refine c_ifP _ rfl (fun c2 => ?_) (fun c2 => ?_)
 ·refine c_skip (x_seq (c_seq (c_blk (c_seq ?_))))
  refine a_beg Ext rfl ?_
  intro w2 ew2
  replace hE := ew2.bl hE hB
  replace hs := hs.ext ew2
  replace hk := hk.ext ew2
  replace hB := ew2.z hB
  have hS : Ext w2 w2 := ext_refl _
  have D_hs := hs
  have D_hk := hk
  refine a_p 0 tK rfl rfl rfl rfl (by kernel_rfl) (fun _ _ _ h => h) hS ?_
  refine a_p 1 tK rfl rfl rfl rfl (by kernel_rfl) (fun _ _ _ h => h) hS ?_
  have hil : i < l.length := by omega
  have hik : i < k.length := by omega
  refine a_ixS 2 tK D_hs (List.getElem?_eq_getElem hil) rfl rfl rfl rfl rfl rfl rfl rfl rfl rfl (by kernel_rfl) (fun _ _ _ _ h => h) hS ?_
  intro ebz3 eoz3 euz3 hrz3 hatz3
  obtain ⟨rfl, _⟩ := hrz3
  refine a_ld 3 tK (fun _ hs => (hatz3.ext hs).cell 0 _ rfl) rfl rfl rfl rfl rfl rfl (by kernel_rfl) (fun _ _ _ h => h) hS ?_
  refine a_p 4 tK rfl rfl rfl rfl (by kernel_rfl) (fun _ _ _ h => h) hS ?_
  refine a_p 5 tK rfl rfl rfl rfl (by kernel_rfl) (fun _ _ _ h => h) hS ?_
  refine a_ixS 6 tK D_hk (List.getElem?_eq_getElem hik) rfl rfl rfl rfl rfl rfl rfl rfl rfl rfl (by kernel_rfl) (fun _ _ _ _ h => h) hS ?_
  intro ebz4 eoz4 euz4 hrz4 hatz4
  obtain ⟨rfl, _⟩ := hrz4
  refine a_ld 7 tK (fun _ hs => (hatz4.ext hs).cell 0 _ rfl) rfl rfl rfl rfl rfl rfl (by kernel_rfl) (fun _ _ _ h => h) hS ?_
  refine a_p 8 tK rfl rfl rfl rfl (by kernel_rfl) (fun _ _ _ h => h) hS ?_
  refine a_end (by kernel_rfl) ?_
  refine x_seq ?_
  refine c_ifN _ rfl (fun c5 => ?_) (fun c5 => ?_)
  ·refine q0 (l_p 1 tK rfl (q1 (c_ret (x_blkR (x_seqR (x_seqR (x_blkR (x_seqR (x_ret1 rfl rfl ?_)))))))))
   exact ⟨by rw [decide_eq_false (fun e : l = k => by subst e; exact absurd rfl (by assumption))], hE⟩
  refine c_skip (x_blk (x_seq (c_reg (l_p 1 tK rfl ?_))))
  refine lC (o_ai rfl rfl rfl (by omega) rfl rfl ?_)
  refine l_p 1 tK rfl (l_nil ?_)
  exact x_round (i + 1) (s3 rfl rfl (get_num rfl (by omega))) ⟨by omega, by
   have h5 : l[i] = k[i] := by assumption
   rw [List.take_succ_eq_append_getElem hil, List.take_succ_eq_append_getElem hik, htk, h5], hs, hk, hE, hB⟩ (by omega)
 refine c_exit (x_seqE (x_seqE (x_blkE (x_seq (q0 (l_p 1 tK rfl (q1 (c_ret (x_ret1 rfl rfl ?_)))))))))
 exact ⟨by rw [decide_eq_true (show l = k by rwa [List.take_of_length_le (by omega), List.take_of_length_le (by omega)] at htk)], hE⟩
def ty5 : Ty := .mk 0 ⟨#[]⟩ 0 []
def tm5F : Tm := .mk 32 ⟨#[102]⟩ ⟨#[]⟩ 0 false ty5 []
def tm5X : Tm := .mk 32 ⟨#[120]⟩ ⟨#[]⟩ 0 false ty5 []
def tm5A : Tm := .mk 37 ⟨#[]⟩ ⟨#[]⟩ 0 false ty5 [tm5F, tm5X]
def tm5L : Tm := .mk 35 ⟨#[]⟩ ⟨#[120]⟩ 0 false ty5 [tm5A]
theorem tm5F_right : rightT tm5F false = true := by rw [rightT_eq]; rfl
theorem tm5X_right : rightT tm5X false = true := by rw [rightT_eq]; rfl
theorem tm5A_right : rightT tm5A false = true := by
 have hF := tm5F_right
 have hX := tm5X_right
 rw [rightT_eq, show kidL tm5A.kids = [(32, rightT tm5F), (32, rightT tm5X)] from rfl]
 simp only [kidsT]
 rw [show innerB tm5A.op 0 = false from rfl, show innerB tm5A.op (0 + 1) = false from rfl, hF, hX]
 rfl
theorem tm5L_right : rightT tm5L false = true := by
 have hA := tm5A_right
 rw [rightT_eq, show kidL tm5L.kids = [(37, rightT tm5A)] from rfl]
 simp only [kidsT]
 rw [show innerB tm5L.op 0 = false from rfl, hA]
 rfl
theorem tm5_nodes : nodesL tm5L = [tm5L, tm5A, tm5F, tm5X] := by
 have hF : nodesL tm5F = [tm5F] := by rw [nodesL_eq]; rfl
 have hX : nodesL tm5X = [tm5X] := by rw [nodesL_eq]; rfl
 have hA : nodesL tm5A = [tm5A, tm5F, tm5X] := by rw [nodesL_eq, show tm5A.kids = [tm5F, tm5X] from rfl, List.flatMap_cons, List.flatMap_cons, List.flatMap_nil, hF, hX]; rfl
 rw [nodesL_eq, show tm5L.kids = [tm5A] from rfl, List.flatMap_cons, List.flatMap_nil, hA]; rfl
theorem ty5_psz : psz ty5 = 1 := by rw [psz_eq]; rfl
theorem tm5_ann : AnnS tm5L := by
 intro x hx
 rw [tm5_nodes] at hx
 have hz := ty5_psz
 simp at hx
 rcases hx with rfl | rfl | rfl | rfl
 all_goals (show psz ty5 ≤ _; omega)
theorem tm5_free : freeS tm5L = [⟨#[102]⟩] := by
 have h : ((downF tm5L ([], [])).2.map (·.1)) = [⟨#[102]⟩] := by
  rw [downF_eq, show tm5L.kids.map downF = [downF tm5A] from rfl, show downF tm5A = fun x => foldD [tm5F, tm5X] x from funext fun x => down_else (t := tm5A) (by decide) x]
  have hF : ∀ x, downF tm5F x = _ := fun x => down_var (t := tm5F) rfl x
  have hX : ∀ x, downF tm5X x = _ := fun x => down_var (t := tm5X) rfl x
  simp only [foldD, List.map_cons, List.map_nil, List.foldl_cons, List.foldl_nil, funext hF, funext hX]
  decide
 rw [freeS, h]
 simp [sortB, strT]
theorem free5 (M : Nat → Prop) (w : World) (v : Value) (ht : Rep.R M w v tm5L) (hlow : Low M w) :
  Calls Tryz.prog 18 #[v] w (Ret fun r w' => Sl M w' r ([⟨#[102]⟩] : List ByteArray) ∧ Ext w w') := by
 have h := free_spec tm5L M w v ht hlow tm5_ann (by unfold nsz; rw [tm5_nodes]; decide)
 rw [tm5L_right, cond_true, tm5_free] at h
 exact h
theorem alive5_spec (M : Nat → Prop) (w : World) (hlow : Low M w) :
  Calls Tryz.prog 6 #[] w (Ret fun r w' => r = .bool true ∧ Ext w w') := by
 have hE : Below w.heap.size w w := Below.refl _ _
 have hB : w.heap.size ≤ w.heap.size := Nat.le_refl _
 refine c_enter (n := 12) Tryz.func6 rfl rfl rfl ?_
 refine q0 (l_p 1 tK rfl (q1 (q0 ?_)))
 refine lC (o_build (cells := [.int .u8 32, .string ⟨#[102]⟩, .string ⟨#[]⟩, .int .i64 0, .bool false, .int .u8 0, .string ⟨#[]⟩, .int .i64 0, .slice none 0 0, .slice none 0 0]) (css := [[.int .u8 32], [.string ⟨#[102]⟩]]) bd28 rfl rfl rfl rfl rfl ?_)
 have hn0 : Rep.R M w (.agg #[.int .u8 32, .string ⟨#[102]⟩, .string ⟨#[]⟩, .int .i64 0, .bool false, .int .u8 0, .string ⟨#[]⟩, .int .i64 0, .slice none 0 0, .slice none 0 0]) tm5F := tm_mk (ann := ty5) (by decide) (by decide) (by decide) ⟨by decide, by decide⟩ (ty_mk (by decide) (by decide) ⟨by decide, by decide⟩ sl_nil) sl_nil
 refine lC (o_build (cells := [.int .u8 32, .string ⟨#[120]⟩, .string ⟨#[]⟩, .int .i64 0, .bool false, .int .u8 0, .string ⟨#[]⟩, .int .i64 0, .slice none 0 0, .slice none 0 0]) (css := [[.int .u8 32], [.string ⟨#[120]⟩]]) bd28 rfl rfl rfl rfl rfl ?_)
 have hn1 : Rep.R M w (.agg #[.int .u8 32, .string ⟨#[120]⟩, .string ⟨#[]⟩, .int .i64 0, .bool false, .int .u8 0, .string ⟨#[]⟩, .int .i64 0, .slice none 0 0, .slice none 0 0]) tm5X := tm_mk (ann := ty5) (by decide) (by decide) (by decide) ⟨by decide, by decide⟩ (ty_mk (by decide) (by decide) ⟨by decide, by decide⟩ sl_nil) sl_nil
 refine lC (o_bs tK rfl rfl rfl rfl rfl rfl rfl (by intro v hv; simp at hv; (repeat' (rcases hv with rfl | hv)); all_goals first | rfl | (subst hv; rfl)) rfl rfl rfl ?_)
 intro bl0 w1 qbl0 ew1 hbl0
 have nbl0 := nM_of hlow qbl0
 replace hE := ew1.bl hE hB
 replace hn0 := Rep.ext hn0 ew1
 replace hn1 := Rep.ext hn1 ew1
 replace hlow := hlow.ext ew1
 replace hB := ew1.z hB
 have hsl0 : Sl M w1 (.slice (some ⟨bl0, 0, none⟩) 2 2) [tm5F, tm5X] := lit_sl hbl0 nbl0 (show Rs _ _ [_, _] [tm5F, tm5X] from ⟨hn0, hn1, trivial⟩) (by decide)
 refine lC (o_build (cells := [.int .u8 37, .string ⟨#[]⟩, .string ⟨#[]⟩, .int .i64 0, .bool false, .int .u8 0, .string ⟨#[]⟩, .int .i64 0, .slice none 0 0, .slice (some ⟨bl0, 0, none⟩) 2 2]) (css := [[.int .u8 37], [.slice (some ⟨bl0, 0, none⟩) 2 2]]) bd28 rfl rfl rfl rfl rfl ?_)
 have hn2 : Rep.R M w1 (.agg #[.int .u8 37, .string ⟨#[]⟩, .string ⟨#[]⟩, .int .i64 0, .bool false, .int .u8 0, .string ⟨#[]⟩, .int .i64 0, .slice none 0 0, .slice (some ⟨bl0, 0, none⟩) 2 2]) tm5A := tm_mk (ann := ty5) (by decide) (by decide) (by decide) ⟨by decide, by decide⟩ (ty_mk (by decide) (by decide) ⟨by decide, by decide⟩ sl_nil) hsl0
 refine lC (o_new tK rfl rfl rfl ?_)
 intro bx w2 qbx ew2 hbx
 have nbx := nM_of hlow qbx
 refine lC (o_st tK hbx rfl rfl rfl rfl (Rep.one hn2) rfl rfl ?_)
 intro w3 hbx uw3 bew3
 have ew3 : Ext w1 w3 := ew2.trans (bew3 _ (Nat.le_of_eq qbx.symm))
 replace hE := ew3.bl hE hB
 replace hn0 := Rep.ext hn0 ew3
 replace hn1 := Rep.ext hn1 ew3
 replace hsl0 := hsl0.ext ew3
 replace hn2 := Rep.ext hn2 ew3
 replace hlow := hlow.ext ew3
 replace hB := ew3.z hB
 replace hbx : Box w3 bx 28 [.int .u8 37, .string ⟨#[]⟩, .string ⟨#[]⟩, .int .i64 0, .bool false, .int .u8 0, .string ⟨#[]⟩, .int .i64 0, .slice none 0 0, .slice (some ⟨bl0, 0, none⟩) 2 2] := hbx
 replace hbx := hbx.at nbx
 refine q1 (q0 ?_)
 refine lC (o_lds tK (fun j v hv => hbx.cell j v hv) rfl rfl rfl rfl rfl rfl ?_)
 refine lC (o_bs tK rfl rfl rfl rfl rfl rfl rfl (by intro v hv; simp at hv; (repeat' (rcases hv with rfl | hv)); all_goals first | rfl | (subst hv; rfl)) rfl rfl rfl ?_)
 intro bl1 w4 qbl1 ew4 hbl1
 have nbl1 := nM_of hlow qbl1
 replace hE := ew4.bl hE hB
 replace hn0 := Rep.ext hn0 ew4
 replace hn1 := Rep.ext hn1 ew4
 replace hsl0 := hsl0.ext ew4
 replace hn2 := Rep.ext hn2 ew4
 replace hbx := hbx.ext ew4
 replace hlow := hlow.ext ew4
 replace hB := ew4.z hB
 have hsl1 : Sl M w4 (.slice (some ⟨bl1, 0, none⟩) 1 1) [tm5A] := lit_sl hbl1 nbl1 (show Rs _ _ [_] [tm5A] from ⟨hn2, trivial⟩) (by decide)
 refine lC (o_build (cells := [.int .u8 35, .string ⟨#[]⟩, .string ⟨#[120]⟩, .int .i64 0, .bool false, .int .u8 0, .string ⟨#[]⟩, .int .i64 0, .slice none 0 0, .slice (some ⟨bl1, 0, none⟩) 1 1]) (css := [[.int .u8 35], [.string ⟨#[120]⟩], [.slice (some ⟨bl1, 0, none⟩) 1 1]]) bd28 rfl rfl rfl rfl rfl ?_)
 have hn3 : Rep.R M w4 (.agg #[.int .u8 35, .string ⟨#[]⟩, .string ⟨#[120]⟩, .int .i64 0, .bool false, .int .u8 0, .string ⟨#[]⟩, .int .i64 0, .slice none 0 0, .slice (some ⟨bl1, 0, none⟩) 1 1]) tm5L := tm_mk (ann := ty5) (by decide) (by decide) (by decide) ⟨by decide, by decide⟩ (ty_mk (by decide) (by decide) ⟨by decide, by decide⟩ sl_nil) hsl1
 refine lC (o_call fo18 rfl rfl rfl ((free5 _ _ _ hn3 hlow)) ?_)
 rintro vhx w5 ⟨hx, ew5⟩
 replace hE := ew5.bl hE hB
 replace hn0 := Rep.ext hn0 ew5
 replace hn1 := Rep.ext hn1 ew5
 replace hsl0 := hsl0.ext ew5
 replace hn2 := Rep.ext hn2 ew5
 replace hbx := hbx.ext ew5
 replace hsl1 := hsl1.ext ew5
 replace hn3 := Rep.ext hn3 ew5
 replace hlow := hlow.ext ew5
 replace hB := ew5.z hB
 refine lC (o_bs tK rfl rfl rfl rfl rfl rfl rfl (sz1 rfl) rfl rfl rfl ?_)
 intro bl2 w6 qbl2 ew6 hbl2
 have nbl2 := nM_of hlow qbl2
 replace hE := ew6.bl hE hB
 replace hn0 := Rep.ext hn0 ew6
 replace hn1 := Rep.ext hn1 ew6
 replace hsl0 := hsl0.ext ew6
 replace hn2 := Rep.ext hn2 ew6
 replace hbx := hbx.ext ew6
 replace hsl1 := hsl1.ext ew6
 replace hn3 := Rep.ext hn3 ew6
 replace hx := hx.ext ew6
 replace hlow := hlow.ext ew6
 replace hB := ew6.z hB
 have hsl2 : Sl M w6 (.slice (some ⟨bl2, 0, none⟩) 1 1) ([⟨#[102]⟩] : List ByteArray) := lit_sl hbl2 nbl2 (show Rs _ _ [_] ([⟨#[102]⟩] : List ByteArray) from ⟨⟨rfl, by decide⟩, trivial⟩) (by decide)
 refine lC (o_call fo21 rfl rfl rfl (texts_spec _ _ M _ _ _ hx hsl2) ?_)
 rintro _ w7 ⟨rfl, ew7⟩
 replace hE := ew7.bl hE hB
 replace hn0 := Rep.ext hn0 ew7
 replace hn1 := Rep.ext hn1 ew7
 replace hsl0 := hsl0.ext ew7
 replace hn2 := Rep.ext hn2 ew7
 replace hbx := hbx.ext ew7
 replace hsl1 := hsl1.ext ew7
 replace hn3 := Rep.ext hn3 ew7
 replace hx := hx.ext ew7
 replace hsl2 := hsl2.ext ew7
 replace hlow := hlow.ext ew7
 replace hB := ew7.z hB
 refine l_p 1 tK rfl (q1 (c_ret (x_ret1 rfl rfl ?_)))
 exact ⟨by rw [decide_eq_true rfl], hE⟩
end Go.Proofs.YtohfnpmehgpphaaGreat
namespace Rw
open Go Go.RowKit
end Rw
namespace Rw
open Go Go.RowKit
/-! ## Texts in order -/
def leS (x y : ByteArray) : Bool := sLt x y || decide (x = y)
theorem bytesLess_lt : ∀ a b : List UInt8, Go.Op.bytesLess a b = decide (a < b)
  | [], [] => by simp [Go.Op.bytesLess]
  | [], _ :: _ => by simp [Go.Op.bytesLess]
  | _ :: _, [] => by simp [Go.Op.bytesLess]
  | x :: a, y :: b => by
    have ih := bytesLess_lt a b
    rw [Go.Op.bytesLess, ih, Bool.eq_iff_iff]
    simp [List.cons_lt_cons_iff]
theorem leS_iff (x y : ByteArray) : leS x y = true ↔ x.data.toList ≤ y.data.toList := by
  unfold leS sLt
  rw [bytesLess_lt, Bool.or_eq_true, decide_eq_true_eq, decide_eq_true_eq, List.le_iff_lt_or_eq]
  refine or_congr Iff.rfl ⟨fun h => by rw [h], fun h => ?_⟩
  cases x; cases y
  exact congrArg ByteArray.mk (Array.toList_inj.1 h)
theorem leS_refl (x : ByteArray) : leS x x = true := (leS_iff x x).2 (List.le_refl _)
theorem leS_trans {x y z : ByteArray} (h : leS x y = true) (k : leS y z = true) : leS x z = true := (leS_iff x z).2 (List.le_trans ((leS_iff x y).1 h) ((leS_iff y z).1 k))
theorem leS_anti {x y : ByteArray} (h : leS x y = true) (k : leS y x = true) : x = y := by
  have := List.le_antisymm ((leS_iff x y).1 h) ((leS_iff y x).1 k)
  cases x; cases y
  exact congrArg ByteArray.mk (Array.toList_inj.1 this)
theorem leS_total (x y : ByteArray) : leS x y = true ∨ leS y x = true := by
  rw [leS_iff, leS_iff]; exact List.le_total _ _
def LtS (x y : ByteArray) : Prop := leS x y = true ∧ x ≠ y
theorem LtS.of_not {x y : ByteArray} (h : ¬ leS x y = true) : LtS y x := ⟨(leS_total x y).resolve_left h, fun e => h (e ▸ leS_refl _)⟩
theorem LtS.of_le {x y z : ByteArray} (h : leS x y = true) (k : LtS y z) : LtS x z := ⟨leS_trans h k.1, fun e => k.2 (leS_anti k.1 (e ▸ h))⟩
/-- Rising. -/
def Ris (l : List ByteArray) : Prop := l.Pairwise LtS
theorem Ris.nodup {l : List ByteArray} (h : Ris l) : l.Nodup := h.imp fun h => h.2
theorem Ris.snoc {l : List ByteArray} {x : ByteArray} (h : Ris l) (k : ∀ y ∈ l, LtS y x) : Ris (l ++ [x]) := List.pairwise_append.2 ⟨h, List.pairwise_singleton _ _, fun a ha b hb => by rw [List.mem_singleton.1 hb]; exact k a ha⟩
theorem sortB_ris {l r : List ByteArray} (hl : l.Nodup) (hr : Ris r) (h : ∀ x, x ∈ l ↔ x ∈ r) : sortB l = r := by
  have hp : (sortB l).Perm r := (sortB_perm l).trans ((List.perm_ext_iff_of_nodup hl hr.nodup).2 h)
  have hs : (sortB l).Pairwise (fun a b => leS a b = true) := by
    unfold sortB
    rw [List.pairwise_map]
    have tr : ∀ a b c : List UInt8, leB a b = true → leB b c = true → leB a c = true := fun a b c h1 h2 => by simp only [leB, decide_eq_true_eq] at *; exact List.le_trans h1 h2
    have to : ∀ a b : List UInt8, (leB a b || leB b a) = true := fun a b => by simp only [leB, Bool.or_eq_true, decide_eq_true_eq]; exact List.le_total a b
    refine (List.pairwise_mergeSort tr to _).imp fun {a b} h => ?_
    rw [leS_iff]
    simpa [leB, strT] using h
  exact List.Perm.eq_of_pairwise (le := fun a b => leS a b = true) (fun a b _ _ h1 h2 => leS_anti h1 h2) hs (hr.imp fun h => h.1) hp
/-! ## The document's lists -/
def without (l : List ByteArray) (s : ByteArray) : List ByteArray := l.filter fun x => !decide (x = s)
/-- One more text is gone through. -/
def stW (s : ByteArray) (st : List ByteArray × Bool) (y : ByteArray) : List ByteArray × Bool :=
  ((if y = s then (if st.2 = false ∧ leS s y = true then st.1 ++ [s] else st.1) else (if st.2 = false ∧ leS s y = true then st.1 ++ [s] else st.1) ++ [y]), st.2 || leS s y)
def withP (l : List ByteArray) (s : ByteArray) : List ByteArray × Bool := l.foldl (stW s) ([], false)
def withL (l : List ByteArray) (s : ByteArray) : List ByteArray := if (withP l s).2 then (withP l s).1 else (withP l s).1 ++ [s]
theorem withP_step {l : List ByteArray} {i : Nat} (h : i < l.length) (s : ByteArray) : withP (l.take (i + 1)) s = stW s (withP (l.take i) s) l[i] := by
  unfold withP
  rw [List.take_succ_eq_append_getElem h, List.foldl_append]; rfl
theorem withP_len (s : ByteArray) : ∀ (l : List ByteArray) (i : Nat), i ≤ l.length → (withP (l.take i) s).1.length + (bif (withP (l.take i) s).2 then 0 else 1) ≤ i + 1 := by
  intro l i
  induction i with
  | zero => intro _; exact Nat.le_refl _
  | succ i ih =>
    intro hi
    have h := ih (by omega)
    rw [withP_step (by omega)]
    unfold stW
    cases hb : (withP (l.take i) s).2 <;> cases hc : leS s l[i] <;> simp only [hb, hc] at h ⊢ <;> split <;> simp at h ⊢ <;> omega
theorem withL_len (l : List ByteArray) (s : ByteArray) : (withL l s).length ≤ l.length + 1 := by
  have h := withP_len s l l.length (Nat.le_refl _)
  rw [List.take_of_length_le (Nat.le_refl _)] at h
  unfold withL
  cases hb : (withP l s).2 <;> rw [hb] at h <;> simp at h ⊢ <;> omega
structure WInv (s : ByteArray) (p : List ByteArray) (st : List ByteArray × Bool) : Prop where
  ris : Ris st.1
  mem : ∀ z, z ∈ st.1 ↔ z ∈ p ∨ (st.2 = true ∧ z = s)
  no : st.2 = false → ∀ y ∈ p, LtS y s
  yes : st.2 = true → ∃ y ∈ p, leS s y = true
theorem winv_step {s y : ByteArray} {p : List ByteArray} {st : List ByteArray × Bool} (h : WInv s p st) (hy : ∀ x ∈ p, LtS x y) : WInv s (p ++ [y]) (stW s st y) := by
  obtain ⟨out, fl⟩ := st
  cases fl with
  | true =>
    obtain ⟨y', hy', hs⟩ := h.yes rfl
    have hlt : LtS s y := LtS.of_le hs (hy y' hy')
    have hne : ¬ y = s := fun e => hlt.2 e.symm
    have e : stW s (out, true) y = (out ++ [y], true) := by unfold stW; simp [hne]
    rw [e]
    refine ⟨h.ris.snoc fun z hz => ?_, fun z => ?_, fun e => (by cases e), fun _ => ⟨y', List.mem_append_left _ hy', hs⟩⟩
    · rcases (h.mem z).1 hz with h1 | ⟨_, rfl⟩
      · exact hy z h1
      · exact hlt
    · have := h.mem z
      simp only [List.mem_append, List.mem_singleton] at this ⊢
      rw [this]
      constructor
      · rintro ((h1 | h1) | h1)
        · exact .inl (.inl h1)
        · exact .inr h1
        · exact .inl (.inr h1)
      · rintro ((h1 | h1) | h1)
        · exact .inl (.inl h1)
        · exact .inr h1
        · exact .inl (.inr h1)
  | false =>
    have hout : ∀ z, z ∈ out ↔ z ∈ p := fun z => by have := h.mem z; simpa using this
    cases hc : leS s y with
    | false =>
      have hlt : LtS y s := LtS.of_not (by rw [hc]; decide)
      have e : stW s (out, false) y = (out ++ [y], false) := by unfold stW; simp [hc, hlt.2]
      rw [e]
      refine ⟨h.ris.snoc fun z hz => hy z ((hout z).1 hz), fun z => ?_, fun _ x hx => ?_, fun e => by cases e⟩
      · simp only [List.mem_append, List.mem_singleton, hout]; simp
      · rcases List.mem_append.1 hx with h1 | h1
        · exact h.no rfl x h1
        · rw [List.mem_singleton.1 h1]; exact hlt
    | true =>
      have hr : Ris (out ++ [s]) := h.ris.snoc fun z hz => h.no rfl z ((hout z).1 hz)
      by_cases hys : y = s
      · have e : stW s (out, false) y = (out ++ [s], true) := by unfold stW; simp [hc, hys, leS_refl]
        rw [e]
        refine ⟨hr, fun z => ?_, fun e => (by cases e), fun _ => ⟨y, by simp, hc⟩⟩
        simp only [List.mem_append, List.mem_singleton, hout, hys]; simp
      · have e : stW s (out, false) y = (out ++ [s] ++ [y], true) := by unfold stW; simp [hc, hys]
        rw [e]
        refine ⟨hr.snoc fun z hz => ?_, fun z => ?_, fun e => (by cases e), fun _ => ⟨y, by simp, hc⟩⟩
        · rcases List.mem_append.1 hz with h1 | h1
          · exact hy z ((hout z).1 h1)
          · rw [List.mem_singleton.1 h1]; exact ⟨hc, fun e => hys e.symm⟩
        · simp only [List.mem_append, List.mem_singleton, hout]
          constructor
          · rintro ((h1 | h1) | h1)
            · exact .inl (.inl h1)
            · exact .inr ⟨trivial, h1⟩
            · exact .inl (.inr h1)
          · rintro ((h1 | h1) | ⟨_, h1⟩)
            · exact .inl (.inl h1)
            · exact .inr h1
            · exact .inl (.inr h1)
theorem winv (s : ByteArray) {l : List ByteArray} (h : Ris l) : WInv s l (withP l s) := by
  have key : ∀ i ≤ l.length, WInv s (l.take i) (withP (l.take i) s) := by
    intro i
    induction i with
    | zero => intro _; exact ⟨List.Pairwise.nil, fun z => by simp [withP], fun _ y hy => (by cases hy), fun e => by cases e⟩
    | succ i ih =>
      intro hi
      rw [withP_step (by omega), List.take_succ_eq_append_getElem (by omega)]
      refine winv_step (ih (by omega)) fun x hx => ?_
      obtain ⟨j, hj, rfl⟩ := List.getElem_of_mem hx
      rw [List.length_take] at hj
      rw [List.getElem_take]
      exact List.pairwise_iff_getElem.1 h j i (by omega) (by omega) (by omega)
  have := key l.length (Nat.le_refl _)
  rwa [List.take_of_length_le (Nat.le_refl _)] at this
theorem withL_law (s : ByteArray) {l : List ByteArray} (h : Ris l) : Ris (withL l s) ∧ ∀ z, z ∈ withL l s ↔ z ∈ l ∨ z = s := by
  have hi := winv s h
  unfold withL
  cases hb : (withP l s).2 with
  | true =>
    rw [if_pos rfl]
    exact ⟨hi.ris, fun z => by rw [hi.mem z, hb]; simp⟩
  | false =>
    rw [if_neg (by decide)]
    have hm : ∀ z, z ∈ (withP l s).1 ↔ z ∈ l := fun z => by rw [hi.mem z, hb]; simp
    exact ⟨hi.ris.snoc fun z hz => hi.no hb z ((hm z).1 hz), fun z => by rw [List.mem_append, hm z, List.mem_singleton]⟩
/-- Each of a list's texts. -/
def allW (l acc : List ByteArray) : List ByteArray := l.foldl withL acc
theorem allW_step {l : List ByteArray} {k : Nat} (h : k < l.length) (acc : List ByteArray) : allW (l.take (k + 1)) acc = withL (allW (l.take k) acc) l[k] := by
  unfold allW
  rw [List.take_succ_eq_append_getElem h, List.foldl_append]; rfl
theorem allW_len : ∀ (l acc : List ByteArray), (allW l acc).length ≤ acc.length + l.length
  | [], _ => Nat.le_refl _
  | s :: l, acc => by
    have h1 := allW_len l (withL acc s)
    have h2 := withL_len acc s
    show (allW l (withL acc s)).length ≤ _
    rw [List.length_cons]; omega
theorem allW_law : ∀ (l acc : List ByteArray), Ris acc → Ris (allW l acc) ∧ ∀ z, z ∈ allW l acc ↔ z ∈ acc ∨ z ∈ l
  | [], acc, h => ⟨h, fun z => by simp [allW]⟩
  | s :: l, acc, h => by
    obtain ⟨h1, h2⟩ := withL_law s h
    obtain ⟨h3, h4⟩ := allW_law l (withL acc s) h1
    refine ⟨h3, fun z => ?_⟩
    show z ∈ allW l (withL acc s) ↔ _
    rw [h4, h2, List.mem_cons, or_assoc]
/-! ## The document's Free -/
/-- What of a kid's names is free above it: once, and then. -/
def cutA (op : Int) (arg : ByteArray) (l : List ByteArray) : List ByteArray := if op = 35 ∨ op = 36 ∨ op = 49 ∨ op = 50 then without l arg else l
def cutN (op : Int) (name : ByteArray) (i : Nat) (l : List ByteArray) : List ByteArray := if op = 36 ∨ (op = 38 ∧ i = 1) then without l name else l
def unionK (op : Int) (name arg : ByteArray) : Nat → List (List ByteArray) → List ByteArray → List ByteArray
  | _, [], acc => acc
  | i, l :: r, acc => unionK op name arg (i + 1) r (allW (cutN op name i (cutA op arg l)) acc)
def freeR : Tm → List ByteArray
  | .mk op name arg n has ann kids => if op = 32 then [name] else unionK op name arg 0 (kids.map freeR) []
theorem freeR_eq (t : Tm) : freeR t = if t.op = 32 then [t.name] else unionK t.op t.name t.arg 0 (t.kids.map freeR) [] := by cases t; rw [freeR]; rfl
def freeTo (t : Tm) (i : Nat) : List ByteArray := unionK t.op t.name t.arg 0 ((t.kids.take i).map freeR) []
theorem unionK_snoc (op : Int) (name arg : ByteArray) (x : List ByteArray) : ∀ (l : List (List ByteArray)) (i : Nat) (acc : List ByteArray), unionK op name arg i (l ++ [x]) acc = allW (cutN op name (i + l.length) (cutA op arg x)) (unionK op name arg i l acc)
  | [], i, acc => rfl
  | y :: l, i, acc => by
    show unionK op name arg (i + 1) (l ++ [x]) _ = _
    rw [unionK_snoc op name arg x l, List.length_cons, show i + 1 + l.length = i + (l.length + 1) by omega]; rfl
theorem freeTo_step {t : Tm} {i : Nat} (h : i < t.kids.length) : freeTo t (i + 1) = allW (cutN t.op t.name i (cutA t.op t.arg (freeR t.kids[i]))) (freeTo t i) := by
  unfold freeTo
  rw [List.take_succ_eq_append_getElem h, List.map_append, List.map_singleton, unionK_snoc, List.length_map, List.length_take, Nat.zero_add, Nat.min_eq_left (by omega)]
theorem freeTo_all {t : Tm} (h : t.op ≠ 32) : freeTo t t.kids.length = freeR t := by
  rw [freeR_eq, if_neg h, freeTo, List.take_of_length_le (Nat.le_refl _)]
theorem without_len (l : List ByteArray) (s : ByteArray) : (without l s).length ≤ l.length := List.length_filter_le _ _
theorem cut_len (op : Int) (name arg : ByteArray) (i : Nat) (l : List ByteArray) : (cutA op arg l).length ≤ l.length ∧ (cutN op name i (cutA op arg l)).length ≤ l.length := by
  have h1 : (cutA op arg l).length ≤ l.length := by unfold cutA; split <;> first | exact without_len _ _ | exact Nat.le_refl _
  refine ⟨h1, Nat.le_trans ?_ h1⟩
  unfold cutN; split <;> first | exact without_len _ _ | exact Nat.le_refl _
theorem freeR_len (t : Tm) : (freeR t).length ≤ nsz t := by
  refine Tm.ind (p := fun t => (freeR t).length ≤ nsz t) (fun t ih => ?_) t
  by_cases ho : t.op = 32
  · rw [freeR_eq, if_pos ho]; exact nsz_pos t
  · have key : ∀ i ≤ t.kids.length, (freeTo t i).length ≤ nszs (t.kids.take i) := by
      intro i
      induction i with
      | zero => intro _; exact Nat.le_refl _
      | succ i ihi =>
        intro hi
        have h1 := ihi (by omega)
        have h2 := ih t.kids[i] (List.getElem_mem _)
        have h3 := (cut_len t.op t.name t.arg i (freeR t.kids[i])).2
        have h4 := allW_len (cutN t.op t.name i (cutA t.op t.arg (freeR t.kids[i]))) (freeTo t i)
        rw [freeTo_step (by omega), nszs_take (by omega)]
        omega
    have h5 := key t.kids.length (Nat.le_refl _)
    rw [freeTo_all ho, List.take_of_length_le (Nat.le_refl _)] at h5
    have := nsz_eq t
    omega
theorem freeTo_len (t : Tm) {i : Nat} (hi : i ≤ t.kids.length) : (freeTo t i).length ≤ nszs (t.kids.take i) := by
  induction i with
  | zero => exact Nat.le_refl _
  | succ i ihi =>
    have h1 := ihi (by omega)
    have h2 := freeR_len t.kids[i]
    have h3 := (cut_len t.op t.name t.arg i (freeR t.kids[i])).2
    have h4 := allW_len (cutN t.op t.name i (cutA t.op t.arg (freeR t.kids[i]))) (freeTo t i)
    rw [freeTo_step (by omega), nszs_take (by omega)]
    omega
theorem freeTo_ris (t : Tm) {i : Nat} (hi : i ≤ t.kids.length) : Ris (freeTo t i) := by
  induction i with
  | zero => exact List.Pairwise.nil
  | succ i ihi =>
    rw [freeTo_step (by omega)]
    exact (allW_law _ _ (ihi (by omega))).1
theorem freeR_ris (t : Tm) : Ris (freeR t) := by
  by_cases ho : t.op = 32
  · rw [freeR_eq, if_pos ho]; exact List.pairwise_singleton _ _
  · rw [← freeTo_all ho]; exact freeTo_ris t (Nat.le_refl _)
theorem freeTo_mem (t : Tm) (z : ByteArray) {i : Nat} (hi : i ≤ t.kids.length) : z ∈ freeTo t i ↔ ∃ j, ∃ h : j < i, z ∈ cutN t.op t.name j (cutA t.op t.arg (freeR t.kids[j])) := by
  induction i with
  | zero => exact ⟨fun h => (by cases h), fun ⟨j, h, _⟩ => by omega⟩
  | succ i ihi =>
    rw [freeTo_step (by omega), (allW_law _ _ (freeTo_ris t (by omega))).2, ihi (by omega)]
    constructor
    · rintro (⟨j, h, hz⟩ | hz)
      · exact ⟨j, by omega, hz⟩
      · exact ⟨i, by omega, hz⟩
    · rintro ⟨j, h, hz⟩
      by_cases e : j = i
      · subst e; exact .inr hz
      · exact .inl ⟨j, by omega, hz⟩
end Rw
namespace Rw
open Go Go.RowKit
def keysL {ν : Type} (l : List (ByteArray × ν)) : List ByteArray := l.map (·.1)
theorem putK_mem {ν : Type} (l : List (ByteArray × ν)) (k : ByteArray) (v : ν) (z : ByteArray) : z ∈ keysL (putK l k v) ↔ z ∈ keysL l ∨ z = k := by
  unfold putK keysL
  cases hi : l.findIdx? (fun p => decide (p.1 = k)) with
  | none => simp
  | some i =>
    rw [List.findIdx?_eq_some_iff_getElem] at hi
    obtain ⟨hil, h1, _⟩ := hi
    have h1' : l[i].1 = k := of_decide_eq_true h1
    have : (l.set i (k, v)).map (·.1) = l.map (·.1) := by
      rw [List.map_set]
      apply List.ext_getElem?
      intro j
      rw [List.getElem?_set]
      by_cases e : i = j
      · subst e; simp [hil, h1']
      · simp [e]
    simp only [this]
    refine ⟨.inl, fun h => h.elim id fun e => ?_⟩
    subst e
    rw [← h1']
    exact List.mem_map.2 ⟨l[i], List.getElem_mem _, rfl⟩
theorem times_zero (ss : List ByteArray) (z : ByteArray) : times ss z = 0 ↔ z ∉ ss := by
  unfold times
  constructor
  · intro h hz
    have : 0 < (ss.filter fun s => decide (z = s)).length := List.length_pos_iff.2 (fun e => by
      have : z ∈ ss.filter fun s => decide (z = s) := List.mem_filter.2 ⟨hz, by simp⟩
      rw [e] at this; cases this)
    omega
  · intro h
    rw [show ss.filter (fun s => decide (z = s)) = [] from List.filter_eq_nil_iff.2 fun s hs => by simp; rintro rfl; exact h hs]
    rfl
def NN (l : List (ByteArray × Int)) : Prop := ∀ s, 0 ≤ bnd l s
theorem NN.incs {l : List (ByteArray × Int)} (h : NN l) (ss : List ByteArray) : NN (incs l ss 1) := fun s => by
  have h1 := times_le ss s
  have h2 := h s
  rw [bnd_incs]; omega
theorem bnd_zero {l : List (ByteArray × Int)} (h : NN l) (ss : List ByteArray) (z : ByteArray) : bnd (incs l ss 1) z = 0 ↔ bnd l z = 0 ∧ z ∉ ss := by
  have h1 := times_le ss z
  have h2 := h z
  rw [bnd_incs, ← times_zero]; omega
/-- What a walk over an expression does to the names that are free. -/
def Adds (g : BF → BF) (z : ByteArray) (F : Prop) : Prop := ∀ x : BF, NN x.1 → ((z ∈ keysL (g x).2 ↔ z ∈ keysL x.2 ∨ (bnd x.1 z = 0 ∧ F)) ∧ NN (g x).1 ∧ bnd (g x).1 z = bnd x.1 z)
theorem Adds.within {g : BF → BF} {z : ByteArray} {F : Prop} (h : Adds g z F) (ss : List ByteArray) {x : BF} (hx : NN x.1) : z ∈ keysL (withF g ss x).2 ↔ z ∈ keysL x.2 ∨ (bnd x.1 z = 0 ∧ z ∉ ss ∧ F) := by
  have h1 := (h (Rw.incs x.1 ss 1, x.2) (hx.incs ss)).1
  show z ∈ keysL (g (Rw.incs x.1 ss 1, x.2)).2 ↔ _
  rw [h1, bnd_zero hx, and_assoc]
theorem without_mem (l : List ByteArray) (s z : ByteArray) : z ∈ without l s ↔ z ∈ l ∧ ¬ z = s := by simp [without]
theorem free_mem {t : Tm} (ho : t.op ≠ 32) (z : ByteArray) : z ∈ freeR t ↔ ∃ j, ∃ h : j < t.kids.length, z ∈ freeR t.kids[j] ∧ ¬ ((t.op = 35 ∨ t.op = 36 ∨ t.op = 49 ∨ t.op = 50) ∧ z = t.arg) ∧ ¬ ((t.op = 36 ∨ (t.op = 38 ∧ j = 1)) ∧ z = t.name) := by
  rw [← freeTo_all ho, freeTo_mem t z (Nat.le_refl _)]
  refine exists_congr fun j => exists_congr fun h => ?_
  have hA : ∀ l, z ∈ cutA t.op t.arg l ↔ z ∈ l ∧ ¬ ((t.op = 35 ∨ t.op = 36 ∨ t.op = 49 ∨ t.op = 50) ∧ z = t.arg) := by
    intro l
    unfold cutA
    split
    · rename_i h; rw [without_mem]; simp [h]
    · rename_i h; simp [h]
  have hN : ∀ l, z ∈ cutN t.op t.name j l ↔ z ∈ l ∧ ¬ ((t.op = 36 ∨ (t.op = 38 ∧ j = 1)) ∧ z = t.name) := by
    intro l
    unfold cutN
    split
    · rename_i h; rw [without_mem]; simp [h]
    · rename_i h; simp [h]
  rw [hN, hA, and_assoc]
theorem down_adds (t : Tm) : ∀ b, rightT t b = true → ∀ z, Adds (downF t) z (z ∈ freeR t) := by
  refine Tm.ind (p := fun t => ∀ b, rightT t b = true → ∀ z, Adds (downF t) z (z ∈ freeR t)) (fun t ih => ?_) t
  intro b hr z x hx
  obtain ⟨hrl, hrk, hro, _⟩ := right_kids hr
  have hsame : ∀ s, bnd (downF t x).1 s = bnd x.1 s := fun s => down_same t x s
  refine ⟨?_, fun s => by rw [hsame]; exact hx s, hsame z⟩
  have ihk : ∀ k ∈ t.kids, Adds (downF k) z (z ∈ freeR k) := fun k hk => let ⟨b, hb⟩ := hrk k hk; ih k hk b hb z
  by_cases h32 : t.op = 32
  · rw [down_var h32, freeR_eq, if_pos h32, List.mem_singleton]
    by_cases hb : bnd x.1 t.name = 0
    · rw [if_pos hb, putK_mem]
      refine or_congr Iff.rfl ⟨fun e => ⟨by rw [e]; exact hb, e⟩, fun h => h.2⟩
    · rw [if_neg hb]
      exact ⟨.inl, fun h => h.elim id fun ⟨h1, h2⟩ => absurd (h2 ▸ h1) hb⟩
  rw [free_mem h32]
  by_cases h1 : t.op = 35 ∨ t.op = 36 ∨ t.op = 49 ∨ t.op = 50
  · have hl : t.kids.length = 1 := by
      have h8 := shp_one (op := t.op) (by omega)
      have := hrl h8.2
      omega
    have h0 : 0 < t.kids.length := by omega
    have hk := ihk _ (List.getElem_mem h0)
    have hex : (∃ j, ∃ h : j < t.kids.length, z ∈ freeR t.kids[j] ∧ ¬ ((t.op = 35 ∨ t.op = 36 ∨ t.op = 49 ∨ t.op = 50) ∧ z = t.arg) ∧ ¬ ((t.op = 36 ∨ (t.op = 38 ∧ j = 1)) ∧ z = t.name)) ↔ (z ∈ freeR t.kids[0] ∧ ¬ z = t.arg ∧ ¬ (t.op = 36 ∧ z = t.name)) := by
      constructor
      · rintro ⟨j, h, h2, h3, h4⟩
        obtain rfl : j = 0 := by omega
        exact ⟨h2, fun e => h3 ⟨h1, e⟩, fun e => h4 ⟨.inl e.1, e.2⟩⟩
      · rintro ⟨h2, h3, h4⟩
        exact ⟨0, h0, h2, fun e => h3 e.2, fun e => h4 ⟨e.1.elim id (fun h => absurd h.2 (by decide)), e.2⟩⟩
    rw [hex]
    by_cases h36 : t.op = 36
    · rw [down_rec h36 h0, hk.within _ hx]
      simp only [List.mem_cons, List.not_mem_nil, or_false, not_or, h36, true_and]
      refine or_congr Iff.rfl (and_congr Iff.rfl ?_)
      exact ⟨fun ⟨⟨a, b⟩, c⟩ => ⟨c, b, a⟩, fun ⟨c, b, a⟩ => ⟨⟨a, b⟩, c⟩⟩
    · have h35 : t.op = 35 ∨ t.op = 49 ∨ t.op = 50 := by clear hex hk ihk ih hrk hsame; omega
      rw [down_one h35 h0, hk.within _ hx]
      simp only [List.mem_singleton, h36, false_and, not_false_eq_true, and_true]
      refine or_congr Iff.rfl (and_congr Iff.rfl ?_)
      exact ⟨fun ⟨a, b⟩ => ⟨b, a⟩, fun ⟨a, b⟩ => ⟨b, a⟩⟩
  · by_cases h38 : t.op = 38
    · have hl : t.kids.length = 2 := by
        have h8 := shp_two (op := t.op) (by omega)
        have := hrl h8.2
        omega
      have h1k : 1 < t.kids.length := by omega
      have h0k : 0 < t.kids.length := by omega
      have hk0 := ihk _ (List.getElem_mem h0k) x hx
      have hk1 := ihk _ (List.getElem_mem h1k)
      rw [down_let h38 h1k, hk1.within _ hk0.2.1, hk0.1, hk0.2.2]
      simp only [List.mem_singleton]
      constructor
      · rintro ((h | ⟨h2, h3⟩) | ⟨h2, h3, h4⟩)
        · exact .inl h
        · exact .inr ⟨h2, 0, h0k, h3, fun e => h1 e.1, fun e => by rcases e.1 with e1 | e1 <;> omega⟩
        · exact .inr ⟨h2, 1, h1k, h4, fun e => h1 e.1, fun e => h3 e.2⟩
      · rintro (h | ⟨h2, j, hj, h3, h4, h5⟩)
        · exact .inl (.inl h)
        · by_cases hj0 : j = 0
          · subst hj0; exact .inl (.inr ⟨h2, h3⟩)
          · obtain rfl : j = 1 := by omega
            exact .inr ⟨h2, fun e => h5 ⟨.inr ⟨h38, rfl⟩, e⟩, h3⟩
    · rw [down_else (by omega)]
      have hex : (∃ j, ∃ h : j < t.kids.length, z ∈ freeR t.kids[j] ∧ ¬ ((t.op = 35 ∨ t.op = 36 ∨ t.op = 49 ∨ t.op = 50) ∧ z = t.arg) ∧ ¬ ((t.op = 36 ∨ (t.op = 38 ∧ j = 1)) ∧ z = t.name)) ↔ (∃ k ∈ t.kids, z ∈ freeR k) := by
        constructor
        · rintro ⟨j, h, h2, _⟩
          exact ⟨_, List.getElem_mem h, h2⟩
        · rintro ⟨k, hk, h2⟩
          obtain ⟨j, h, rfl⟩ := List.getElem_of_mem hk
          exact ⟨j, h, h2, fun e => h1 e.1, fun e => e.1.elim (fun h => h1 (.inr (.inl h))) (fun h => h38 h.1)⟩
      rw [hex]
      have hfold : ∀ (l : List Tm), (∀ k ∈ l, Adds (downF k) z (z ∈ freeR k)) → ∀ x : BF, NN x.1 → (z ∈ keysL (foldD l x).2 ↔ z ∈ keysL x.2 ∨ (bnd x.1 z = 0 ∧ ∃ k ∈ l, z ∈ freeR k)) := by
        intro l
        induction l with
        | nil => intro _ x _; exact ⟨.inl, fun h => h.elim id fun ⟨_, k, hk, _⟩ => by cases hk⟩
        | cons k l ihl =>
          intro h x hx
          have hk := h k List.mem_cons_self x hx
          show z ∈ keysL (foldD l (downF k x)).2 ↔ _
          rw [ihl (fun y hy => h y (List.mem_cons_of_mem _ hy)) _ hk.2.1, hk.1, hk.2.2, or_assoc, ← and_or_left]
          refine or_congr Iff.rfl (and_congr Iff.rfl ?_)
          simp
      exact hfold t.kids ihk x hx
theorem down_nodup (t : Tm) : ∀ x : BF, (keysL x.2).Nodup → (keysL (downF t x).2).Nodup := by
  refine Tm.ind (p := fun t => ∀ x : BF, (keysL x.2).Nodup → (keysL (downF t x).2).Nodup) (fun t ih => ?_) t
  intro x hx
  have hfold : ∀ (l : List Tm), (∀ k ∈ l, k ∈ t.kids) → ∀ (x : BF), (keysL x.2).Nodup → (keysL ((l.map downF).foldl (fun x g => g x) x).2).Nodup := by
    intro l
    induction l with
    | nil => intro _ x h; exact h
    | cons k l ihl =>
      intro hk x h
      rw [List.map_cons, List.foldl_cons]
      exact ihl (fun y hy => hk y (List.mem_cons_of_mem _ hy)) _ (ih k (hk k List.mem_cons_self) x h)
  have hhead : ∀ (x : BF), (keysL x.2).Nodup → (keysL ((t.kids.map downF).headD id x).2).Nodup := by
    intro x h
    cases hk : t.kids with
    | nil => exact h
    | cons k l => exact ih k (by rw [hk]; exact List.mem_cons_self) x h
  have hone : ∀ (x : BF), (keysL x.2).Nodup → (keysL (((t.kids.map downF)[1]?).getD id x).2).Nodup := by
    intro x h
    cases hk : (t.kids.map downF)[1]? with
    | none => exact h
    | some g =>
      rw [List.getElem?_map] at hk
      cases hk2 : t.kids[1]? with
      | none => rw [hk2] at hk; cases hk
      | some k => rw [hk2] at hk; cases hk; exact ih k (List.mem_of_getElem? hk2) x h
  rw [downF_eq]
  unfold downK
  split
  · split
    · exact putK_keys _ _ _ hx
    · exact hx
  · split
    · exact hhead _ hx
    · split
      · exact hhead _ hx
      · split
        · exact hone _ (hhead _ hx)
        · exact hfold _ (fun k h => h) _ hx
theorem freeS_law {t : Tm} {b : Bool} (h : rightT t b = true) : freeS t = freeR t := by
  unfold freeS
  refine sortB_ris (down_nodup t ([], []) List.nodup_nil) (freeR_ris t) fun z => ?_
  have h1 := (down_adds t b h z ([], []) (fun s => Int.le_refl _)).1
  show z ∈ keysL _ ↔ _
  rw [h1]
  exact ⟨fun h => h.elim (fun h => by cases h) fun h => h.2, fun h => .inr ⟨rfl, h⟩⟩
/-! ## Values; what is static -/
def valK (op : Int) (l : List (Int × Bool)) : Bool :=
  if op = 32 ∨ op = 33 ∨ op = 34 ∨ op = 35 ∨ op = 36 ∨ op = 41 then true else if op = 46 then ((l[0]?).map (·.2)).getD false
  else if op = 42 then ((l[0]?).map (·.2)).getD false && (((l[1]?).map fun p => decide (p.1 = 41) || decide (p.1 = 42)).getD false && ((l[1]?).map (·.2)).getD false) else false
/-- Is it a value? -/
def valF : Tm → Bool
  | .mk op _ _ _ _ _ kids => valK op (kids.map fun k => (k.op, valF k))
theorem valF_eq (t : Tm) : valF t = valK t.op (t.kids.map fun k => (k.op, valF k)) := by cases t; rw [valF]; rfl
/-- Is it a record that is a value? -/
def litF (t : Tm) : Bool := (decide (t.op = 41) || decide (t.op = 42)) && valF t
theorem val_yes {t : Tm} (h : t.op = 32 ∨ t.op = 33 ∨ t.op = 34 ∨ t.op = 35 ∨ t.op = 36 ∨ t.op = 41) : valF t = true := by rw [valF_eq, valK, if_pos h]
theorem val_roll {t : Tm} (h : t.op = 46) (h0 : 0 < t.kids.length) : valF t = valF t.kids[0] := by
  rw [valF_eq, valK, if_neg (by omega), if_pos h, List.getElem?_map, List.getElem?_eq_getElem h0]; rfl
theorem val_ext {t : Tm} (h : t.op = 42) (h0 : 0 < t.kids.length) (h1 : 1 < t.kids.length) : valF t = (valF t.kids[0] && ((decide (t.kids[1].op = 41) || decide (t.kids[1].op = 42)) && valF t.kids[1])) := by
  rw [valF_eq, valK, if_neg (by omega), if_neg (by omega), if_pos h, List.getElem?_map, List.getElem?_eq_getElem h0, List.getElem?_map, List.getElem?_eq_getElem h1]; rfl
theorem val_no {t : Tm} (h : ¬ (t.op = 32 ∨ t.op = 33 ∨ t.op = 34 ∨ t.op = 35 ∨ t.op = 36 ∨ t.op = 41)) (h6 : t.op ≠ 46) (h2 : t.op ≠ 42) : valF t = false := by
  rw [valF_eq, valK, if_neg h, if_neg h6, if_neg h2]
theorem lit_empty {t : Tm} (h : t.op = 41) : litF t = true := by unfold litF; rw [val_yes (by omega), h]; rfl
theorem lit_ext {t : Tm} (h : t.op = 42) (h0 : 0 < t.kids.length) (h1 : 1 < t.kids.length) : litF t = (valF t.kids[0] && litF t.kids[1]) := by
  unfold litF
  rw [val_ext h h0 h1, h]; rfl
theorem lit_no {t : Tm} (h : t.op ≠ 41) (h2 : t.op ≠ 42) : litF t = false := by unfold litF; rw [decide_eq_false h, decide_eq_false h2]; rfl
theorem val_lit {t : Tm} (h : ¬ (t.op = 32 ∨ t.op = 33 ∨ t.op = 34 ∨ t.op = 35 ∨ t.op = 36)) (h6 : t.op ≠ 46) : valF t = litF t := by
  by_cases h1 : t.op = 41
  · rw [lit_empty h1, val_yes (by omega)]
  · by_cases h2 : t.op = 42
    · unfold litF; rw [h2]; simp
    · rw [lit_no h1 h2, val_no (by omega) h6 h2]
def noteOk (t : Tm) : Bool := !t.has || staticF t.ann
/-- Is it static? -/
def statT (t : Tm) : Bool := (nodesL t).all noteOk
theorem statT_eq (t : Tm) : statT t = (noteOk t && t.kids.all statT) := by
  unfold statT
  rw [nodesL_eq, List.all_cons]
  congr 1
  induction t.kids with
  | nil => rfl
  | cons k l ih => rw [List.flatMap_cons, List.all_append, List.all_cons, ih]
end Rw
namespace Rw
theorem right_note {t : Tm} {b : Bool} (h : rightT t b = true) : (t.has = true → rightB t.ann = true ∧ varsF t.ann = []) ∧ (t.has = false → t.ann = .mk 0 ⟨#[]⟩ 0 []) := by
  rw [rightT_eq] at h
  simp only [Bool.and_eq_true] at h
  obtain ⟨hh, hk⟩ := h
  unfold headT at hh
  simp only [Bool.and_eq_true] at hh
  obtain ⟨h0, _, hnum, hnote, harg, hname, hkids⟩ := hh
  unfold notedB at hnote
  cases hb : t.has with
  | true =>
    rw [hb] at hnote
    simp only [cond_true, Bool.and_eq_true, decide_eq_true_eq] at hnote
    exact ⟨fun _ => ⟨hnote.2.1, hnote.2.2⟩, fun e => (by cases e)⟩
  | false =>
    rw [hb] at hnote
    simp only [cond_false, Bool.and_eq_true] at hnote
    refine ⟨fun e => (by cases e), fun _ => ?_⟩
    have h2 := hnote.2
    unfold blankB at h2
    simp only [Bool.and_eq_true, decide_eq_true_eq] at h2
    exact Ty.ext' h2.1 h2.2.1 h2.2.2.1 h2.2.2.2
end Rw
namespace Go.Proofs.YtohfnpmehgpphaaGreat
open Go Rw Go.RowKit
set_option maxRecDepth 100000
theorem partsS_size (op : Int) : (partsS op).size < 100 := by
 by_cases h : op < 32 ∨ 52 ≤ op
 ·rw [partsS, if_pos h]; decide
 ·rcases op_cases h with e | e | e | e | e | e | e | e | e | e | e | e | e | e | e | e | e | e | e | e <;> subst e <;> decide
theorem refTRight_spec : ∀ (t : Tm) (arm : Bool) (M : Nat → Prop) (w : World) (v : Value), Rep.R M w v t → Low M w → AnnS t → Calls Tryz.prog 10 #[v, .bool arm] w (Ret fun r w' => r = .bool (refT t arm) ∧ Ext w w') := by
 refine Tm.ind fun t ih => ?_
 intro arm M w v ht hlow hz
 have hE : Below w.heap.size w w := Below.refl _ _
 have hB : w.heap.size ≤ w.heap.size := Nat.le_refl _
 obtain ⟨akv, kv, rfl, op, nm, ag, n64, ha, hk⟩ := tm_open ht
 have hlt := hk.lt
 have hps : (partsS t.op).size < 100 := partsS_size t.op
 refine c_enter (n := 107) Tryz.func10 rfl rfl rfl ?_
 refine q0 ?_
 refine lC (o_box rfl rfl rfl ?_)
 intro b2 w1 hb_b2 ew1 h2
 replace h2 : Box _ b2 28 [.int .u8 t.op, .string t.name, .string t.arg, .int .i64 t.n, .bool t.has, .int .u8 t.ann.op, .string t.ann.name, .int .i64 t.ann.n, akv, kv] := h2
 replace h2 := h2.at (nM_of hlow hb_b2)
 replace hE := ew1.bl hE hB
 replace ht := Rep.ext ht ew1
 replace ha := Rep.ext ha ew1
 replace hk := hk.ext ew1
 replace hlow := hlow.ext ew1
 replace hB := ew1.z hB
 refine l_p 1 tK rfl (q1 (q0 (l_p 1 tK rfl ?_)))
 refine lC (o_ld tK (h2.cell 0 _ rfl) rfl rfl rfl rfl rfl ?_)
 refine lC (o_call fo27 rfl rfl rfl (partsS_spec t.op op M _ hlow) ?_)
 rintro _ w2 ⟨rfl, ew2⟩
 replace hE := ew2.bl hE hB
 replace ht := Rep.ext ht ew2
 replace ha := Rep.ext ha ew2
 replace hk := hk.ext ew2
 replace h2 := h2.ext ew2
 replace hlow := hlow.ext ew2
 replace hB := ew2.z hB
 refine l_p 1 tK rfl (q1 ?_)
 refine c_cut (X := Unit) (fun _u => [(2, .pointer (some ⟨b2, 0, none⟩)), (5, .string (partsS t.op))]) (fun _u w' => refT t arm = (bif decide ((partsS t.op) = ⟨#[99]⟩) then caseL (refL t.kids) else decide (t.kids.length = countE (partsS t.op)) && allL (refL t.kids)) ∧ At M w' b2 0 [.int .u8 t.op, .string t.name, .string t.arg, .int .i64 t.n, .bool t.has, .int .u8 t.ann.op, .string t.ann.name, .int .i64 t.ann.n, akv, kv] ∧ Sl M w' kv t.kids ∧ Low M w' ∧ Below w.heap.size w w' ∧ w.heap.size ≤ w'.heap.size) ?_ ?_
 ·refine q0 (l_p 3 tK rfl ?_)
  refine l_splitP 15 _ rfl (fun c1 => ?_) (fun c1 => ?_)
  ·refine l_p 17 tK rfl (q1 (c_ifT rfl (q0 (l_p 1 tK rfl (q1 (c_ret (x_seqR (x_ret1 rfl rfl ?_))))))))
   exact ⟨by rw [refT_eq]; clear ih; unfold armsB; simp_all, hE⟩
  refine l_p 2 tK rfl ?_
  refine lC (o_ld tK (h2.cell 0 _ rfl) rfl rfl rfl rfl rfl ?_)
  refine l_p 2 tK rfl ?_
  refine l_splitP 20 _ rfl (fun c2 => ?_) (fun c2 => ?_)
  ·refine l_p 4 tK rfl ?_
   refine lC (o_bne tK rfl rfl rfl rfl rfl rfl ?_)
   refine l_p 2 tK rfl ?_
   refine l_split 27 _ rfl (fun c3 => ?_) (fun c3 => ?_)
   ·refine l_p 5 tK rfl (q1 (c_ifT rfl (q0 (l_p 1 tK rfl (q1 (c_ret (x_seqR (x_ret1 rfl rfl ?_))))))))
    exact ⟨by rw [refT_eq]; clear ih; unfold armsB; simp_all, hE⟩
   refine lC (o_lds tK (fun j v hv => h2.cell j v hv) rfl rfl rfl rfl rfl rfl ?_)
   refine l_p 1 tK rfl ?_
   refine lC (o_call fo28 rfl rfl rfl (partsR_spec t _ (by omega) _ _ _ ht hlow hz.self) ?_)
   rintro _ w3 ⟨rfl, ew3⟩
   replace hE := ew3.bl hE hB
   replace ht := Rep.ext ht ew3
   replace ha := Rep.ext ha ew3
   replace hk := hk.ext ew3
   replace h2 := h2.ext ew3
   replace hlow := hlow.ext ew3
   replace hB := ew3.z hB
   refine l_p 2 tK rfl (q1 ?_)
   refine c_ifB _ rfl (fun c4 => ?_) (fun c4 => ?_)
   ·refine q0 (l_p 1 tK rfl (q1 (c_ret (x_seqR (x_ret1 rfl rfl ?_)))))
    exact ⟨by rw [refT_eq]; clear ih; unfold armsB; simp_all, hE⟩
   refine c_skip ?_
   have hhd : refT t arm = (bif decide ((partsS t.op) = ⟨#[99]⟩) then caseL (refL t.kids) else decide (t.kids.length = countE (partsS t.op)) && allL (refL t.kids)) := by
    rw [refT_eq]
    clear ih
    unfold armsB
    simp_all
   exact x_cut (()) (s2 rfl rfl) ⟨hhd, h2, hk, hlow, hE, hB⟩
  refine l_p 1 tK rfl ?_
  refine lC (o_ld tK (h2.cell 0 _ rfl) rfl rfl rfl rfl rfl ?_)
  refine l_p 2 tK rfl ?_
  refine lC (o_bne tK rfl rfl rfl rfl rfl rfl ?_)
  refine l_p 2 tK rfl ?_
  refine l_split 27 _ rfl (fun c5 => ?_) (fun c5 => ?_)
  ·refine l_p 5 tK rfl (q1 (c_ifT rfl (q0 (l_p 1 tK rfl (q1 (c_ret (x_seqR (x_ret1 rfl rfl ?_))))))))
   exact ⟨by rw [refT_eq]; clear ih; unfold armsB; simp_all, hE⟩
  refine lC (o_lds tK (fun j v hv => h2.cell j v hv) rfl rfl rfl rfl rfl rfl ?_)
  refine l_p 1 tK rfl ?_
  refine lC (o_call fo28 rfl rfl rfl (partsR_spec t _ (by omega) _ _ _ ht hlow hz.self) ?_)
  rintro _ w4 ⟨rfl, ew4⟩
  replace hE := ew4.bl hE hB
  replace ht := Rep.ext ht ew4
  replace ha := Rep.ext ha ew4
  replace hk := hk.ext ew4
  replace h2 := h2.ext ew4
  replace hlow := hlow.ext ew4
  replace hB := ew4.z hB
  refine l_p 2 tK rfl (q1 ?_)
  refine c_ifB _ rfl (fun c6 => ?_) (fun c6 => ?_)
  ·refine q0 (l_p 1 tK rfl (q1 (c_ret (x_seqR (x_ret1 rfl rfl ?_)))))
   exact ⟨by rw [refT_eq]; clear ih; unfold armsB; simp_all, hE⟩
  refine c_skip ?_
  have hhd : refT t arm = (bif decide ((partsS t.op) = ⟨#[99]⟩) then caseL (refL t.kids) else decide (t.kids.length = countE (partsS t.op)) && allL (refL t.kids)) := by
   rw [refT_eq]
   clear ih
   unfold armsB
   simp_all
  exact x_cut (()) (s2 rfl rfl) ⟨hhd, h2, hk, hlow, hE, hB⟩
 clear h2 hk ht ha hlow hE hB
 rintro _ w80 ⟨hhd, h2, hk, hlow, hE, hB⟩
 refine q0 (l_p 1 tK rfl (q1 (c_seq (q0 (l_p 1 tK rfl (q1 (c_blk ?_)))))))
 refine c_loop (X := Nat) (fun i => [(2, .pointer (some ⟨b2, 0, none⟩)), (5, .string (partsS t.op)), (6, .int .i64 (countTo (partsS t.op) i : Nat)), (7, .int .i64 (i : Nat))]) (fun i w' => i ≤ (partsS t.op).size ∧ At M w' b2 0 [.int .u8 t.op, .string t.name, .string t.arg, .int .i64 t.n, .bool t.has, .int .u8 t.ann.op, .string t.ann.name, .int .i64 t.ann.n, akv, kv] ∧ Sl M w' kv t.kids ∧ Low M w' ∧ Below w.heap.size w w' ∧ w.heap.size ≤ w'.heap.size) (fun i => (partsS t.op).size - i) (0) (s4 rfl rfl rfl rfl) ?_ ?_
 ·exact ⟨Nat.zero_le _, h2, hk, hlow, hE, hB⟩
 clear h2 hk hlow hE hB
 rintro i w5 ⟨hi, h2, hk, hlow, hE, hB⟩
 have hct := countTo_le (partsS t.op) i
 refine c_seq (q0 (l_p 4 tK rfl (q1 ?_)))
 refine c_ifP _ rfl (fun c7 => ?_) (fun c7 => ?_)
 ·refine c_skip (x_seq (c_seq (c_blk (q0 (l_p 2 tK rfl ?_)))))
  have his : i < (partsS t.op).size := by omega
  obtain ⟨ch, hd⟩ : ∃ ch, (partsS t.op).data[i]? = some ch := ⟨_, Array.getElem?_eq_getElem (show i < (partsS t.op).data.size from his)⟩
  refine lC (o_si tK rfl rfl rfl rfl rfl hd rfl rfl ?_)
  refine l_p 1 tK rfl (q1 ?_)
  refine c_ifP _ rfl (fun c8 => ?_) (fun c8 => ?_)
  ·refine c_reg (l_p 1 tK rfl ?_)
   refine lC (o_ai rfl rfl rfl (by omega) rfl rfl ?_)
   refine l_p 1 tK rfl (q2 (x_seq (c_reg (l_p 1 tK rfl ?_))))
   refine lC (o_ai rfl rfl rfl (by omega) rfl rfl ?_)
   refine l_p 1 tK rfl (l_nil ?_)
   exact x_round (i + 1) (s4 rfl rfl (get_num rfl (by rw [countTo_step hd, if_pos (UInt8.toNat_inj.1 (show ch.toNat = 101 by omega))]; omega)) (get_num rfl (by omega))) ⟨by omega, h2, hk, hlow, hE, hB⟩ (by omega)
  refine c_skip (x_blk (x_seq (c_reg (l_p 1 tK rfl ?_))))
  refine lC (o_ai rfl rfl rfl (by omega) rfl rfl ?_)
  refine l_p 1 tK rfl (l_nil ?_)
  exact x_round (i + 1) (s4 rfl rfl (get_num rfl (by rw [countTo_step hd, if_neg (fun e : ch = 101 => c8 (by rw [e]; rfl))]; omega)) (get_num rfl (by omega))) ⟨by omega, h2, hk, hlow, hE, hB⟩ (by omega)
 refine c_exit (x_seqE (x_seqE (x_blkE (x_seq (c_seq (q0 (l_p 2 tK rfl (q1 ?_))))))))
 refine c_ifP _ rfl (fun c9 => ?_) (fun c9 => ?_)
 ·refine c_seq (q0 (l_p 1 tK rfl ?_))
  refine lC (o_ld tK (h2.cell 9 _ rfl) rfl rfl rfl rfl rfl ?_)
  refine lC (o_len tK hk rfl rfl rfl rfl rfl ?_)
  refine l_p 2 tK rfl ?_
  refine l_splitP 51 _ rfl (fun c10 => ?_) (fun c10 => ?_)
  ·refine l_p 7 tK rfl (q1 (c_ifT rfl (q0 (l_p 1 tK rfl (q1 (c_ret (x_seqR (x_seqR (x_ret1 rfl rfl ?_)))))))))
   refine ⟨?_, hE⟩
   rw [hhd, decide_eq_true (by assumption), cond_true]
   by_cases h9 : t.kids.length = 0
   ·rw [List.eq_nil_of_length_eq_zero h9]; rfl
   ·first | (exfalso; omega) | (rw [caseL_step (by omega)]; clear ih; simp_all)
  refine l_p 1 tK rfl ?_
  refine lC (o_ld tK (h2.cell 9 _ rfl) rfl rfl rfl rfl rfl ?_)
  have h0k : 0 < t.kids.length := by omega
  refine lC (o_ixS tK hk (List.getElem?_eq_getElem h0k) rfl rfl rfl rfl rfl rfl rfl rfl rfl ?_)
  intro ebx eox eux hyx hatx
  obtain ⟨akvx, kvx, rfl, opx, nmx, agx, n64x, hax, hkx⟩ := tm_open hyx
  replace hatx : At M w5 ebx eox [.int .u8 t.kids[0].op, .string t.kids[0].name, .string t.kids[0].arg, .int .i64 t.kids[0].n, .bool t.kids[0].has, .int .u8 t.kids[0].ann.op, .string t.kids[0].ann.name, .int .i64 t.kids[0].ann.n, akvx, kvx] := hatx
  refine lC (o_lds tK (fun j v hv => hatx.cell j v hv) rfl rfl rfl rfl rfl rfl ?_)
  refine lC (o_call fo10 rfl rfl rfl (ih _ (List.getElem_mem h0k) _ M _ _ hyx hlow (hz.kid (List.getElem_mem h0k))) ?_)
  rintro _ w6 ⟨rfl, ew6⟩
  replace hE := ew6.bl hE hB
  replace h2 := h2.ext ew6
  replace hk := hk.ext ew6
  replace hyx := Rep.ext hyx ew6
  replace hax := Rep.ext hax ew6
  replace hkx := hkx.ext ew6
  replace hatx := hatx.ext ew6
  replace hlow := hlow.ext ew6
  replace hB := ew6.z hB
  refine l_p 2 tK rfl (q1 ?_)
  refine c_ifB _ rfl (fun c11 => ?_) (fun c11 => ?_)
  ·refine q0 (l_p 1 tK rfl (q1 (c_ret (x_seqR (x_seqR (x_ret1 rfl rfl ?_))))))
   refine ⟨?_, hE⟩
   rw [hhd, decide_eq_true (by assumption), cond_true]
   by_cases h9 : t.kids.length = 0
   ·rw [List.eq_nil_of_length_eq_zero h9]; rfl
   ·first | (exfalso; omega) | (rw [caseL_step (by omega)]; clear ih; simp_all)
  refine c_skip (x_seq (c_seq (q0 (l_p 1 tK rfl (q1 (c_blk ?_))))))
  have h0k : 0 < t.kids.length := by omega
  have hcase : refT t arm = armsL (refL (t.kids.drop 1)) := by
   rw [hhd, decide_eq_true (by assumption), cond_true, caseL_step h0k]; clear ih; simp_all
  refine c_loop (X := Nat) (fun i => [(2, .pointer (some ⟨b2, 0, none⟩)), (8, .int .i64 (i : Nat))]) (fun i w' => 1 ≤ i ∧ i ≤ t.kids.length ∧ refT t arm = armsL (refL (t.kids.drop i)) ∧ At M w' b2 0 [.int .u8 t.op, .string t.name, .string t.arg, .int .i64 t.n, .bool t.has, .int .u8 t.ann.op, .string t.ann.name, .int .i64 t.ann.n, akv, kv] ∧ Sl M w' kv t.kids ∧ Low M w' ∧ Below w.heap.size w w' ∧ w.heap.size ≤ w'.heap.size) (fun i => t.kids.length - i) (1) (s2 rfl rfl) ?_ ?_
  ·exact ⟨Nat.le_refl _, by omega, hcase, h2, hk, hlow, hE, hB⟩
  clear h2 hk hlow hE hB
  rintro i w7 ⟨hi1, hi, hinv, h2, hk, hlow, hE, hB⟩
  refine c_seq (q0 (l_p 2 tK rfl ?_))
  refine lC (o_ld tK (h2.cell 9 _ rfl) rfl rfl rfl rfl rfl ?_)
  refine lC (o_len tK hk rfl rfl rfl rfl rfl ?_)
  refine l_p 1 tK rfl (q1 ?_)
  refine c_ifP _ rfl (fun c12 => ?_) (fun c12 => ?_)
  ·refine c_skip (x_seq (c_seq (c_blk (q0 (l_p 1 tK rfl ?_)))))
   refine lC (o_ld tK (h2.cell 9 _ rfl) rfl rfl rfl rfl rfl ?_)
   refine l_p 1 tK rfl ?_
   have hik : i < t.kids.length := by omega
   refine lC (o_ixS tK hk (List.getElem?_eq_getElem hik) rfl rfl rfl rfl rfl rfl rfl rfl rfl ?_)
   intro ebx eox eux hyx hatx
   obtain ⟨akvx, kvx, rfl, opx, nmx, agx, n64x, hax, hkx⟩ := tm_open hyx
   replace hatx : At M w7 ebx eox [.int .u8 t.kids[i].op, .string t.kids[i].name, .string t.kids[i].arg, .int .i64 t.kids[i].n, .bool t.kids[i].has, .int .u8 t.kids[i].ann.op, .string t.kids[i].ann.name, .int .i64 t.kids[i].ann.n, akvx, kvx] := hatx
   refine lC (o_lds tK (fun j v hv => hatx.cell j v hv) rfl rfl rfl rfl rfl rfl ?_)
   refine lC (o_call fo10 rfl rfl rfl (ih _ (List.getElem_mem hik) _ M _ _ hyx hlow (hz.kid (List.getElem_mem hik))) ?_)
   rintro _ w8 ⟨rfl, ew8⟩
   replace hE := ew8.bl hE hB
   replace h2 := h2.ext ew8
   replace hk := hk.ext ew8
   replace hyx := Rep.ext hyx ew8
   replace hax := Rep.ext hax ew8
   replace hkx := hkx.ext ew8
   replace hatx := hatx.ext ew8
   replace hlow := hlow.ext ew8
   replace hB := ew8.z hB
   refine l_p 2 tK rfl ?_
   refine l_splitB 73 _ rfl (fun c13 => ?_) (fun c13 => ?_)
   ·refine l_p 16 tK rfl (q1 (c_ifT rfl (q0 (l_p 1 tK rfl (q1 (c_ret (x_blkR (x_seqR (x_seqR (x_blkR (x_seqR (x_seqR (x_ret1 rfl rfl ?_)))))))))))))
    exact ⟨by rw [hinv, armsL_step hik]; clear ih; first | (rw [decide_eq_true (show i + 1 < t.kids.length by omega)]; simp_all) | simp_all, hE⟩
   refine l_p 1 tK rfl ?_
   refine lC (o_ld tK (h2.cell 9 _ rfl) rfl rfl rfl rfl rfl ?_)
   refine l_p 1 tK rfl ?_
   refine lC (o_ixS tK hk (List.getElem?_eq_getElem hik) rfl rfl rfl rfl rfl rfl rfl rfl rfl ?_)
   intro eby eoy euy hyy haty
   obtain ⟨akvy, kvy, rfl, opy, nmy, agy, n64y, hay, hky⟩ := tm_open hyy
   replace haty : At M w8 eby eoy [.int .u8 t.kids[i].op, .string t.kids[i].name, .string t.kids[i].arg, .int .i64 t.kids[i].n, .bool t.kids[i].has, .int .u8 t.kids[i].ann.op, .string t.kids[i].ann.name, .int .i64 t.kids[i].ann.n, akvy, kvy] := haty
   refine l_p 1 tK rfl ?_
   refine lC (o_ld tK (haty.cell 0 _ rfl) rfl rfl rfl rfl rfl ?_)
   refine l_p 2 tK rfl ?_
   refine l_splitP 81 _ rfl (fun c14 => ?_) (fun c14 => ?_)
   ·refine l_p 2 tK rfl ?_
    refine lC (o_ld tK (h2.cell 9 _ rfl) rfl rfl rfl rfl rfl ?_)
    refine lC (o_len tK hk rfl rfl rfl rfl rfl ?_)
    refine lC (o_ai rfl rfl rfl (by omega) rfl rfl ?_)
    refine l_p 3 tK rfl (q1 ?_)
    refine c_ifP _ rfl (fun c15 => ?_) (fun c15 => ?_)
    ·refine q0 (l_p 1 tK rfl (q1 (c_ret (x_blkR (x_seqR (x_seqR (x_blkR (x_seqR (x_seqR (x_ret1 rfl rfl ?_))))))))))
     exact ⟨by rw [hinv, armsL_step hik]; clear ih; first | (rw [decide_eq_true (show i + 1 < t.kids.length by omega)]; simp_all) | simp_all, hE⟩
    refine c_skip (x_blk (x_seq (c_reg (l_p 1 tK rfl ?_))))
    refine lC (o_ai rfl rfl rfl (by omega) rfl rfl ?_)
    refine l_p 1 tK rfl (l_nil ?_)
    exact x_round (i + 1) (s2 rfl (get_num rfl (by omega))) ⟨by omega, by omega, by rw [hinv, armsL_step hik]; clear ih; first | (rw [decide_eq_false (show ¬ i + 1 < t.kids.length by omega)]; simp_all) | simp_all, h2, hk, hlow, hE, hB⟩ (by omega)
   refine l_p 8 tK rfl (q1 (c_ifF rfl (c_skip (x_blk (x_seq (c_reg (l_p 1 tK rfl ?_)))))))
   refine lC (o_ai rfl rfl rfl (by omega) rfl rfl ?_)
   refine l_p 1 tK rfl (l_nil ?_)
   exact x_round (i + 1) (s2 rfl (get_num rfl (by omega))) ⟨by omega, by omega, by rw [hinv, armsL_step hik]; clear ih; first | (rw [decide_eq_false (show ¬ i + 1 < t.kids.length by omega)]; simp_all) | simp_all, h2, hk, hlow, hE, hB⟩ (by omega)
  refine c_exit (x_seqE (x_seqE (x_blkE (x_seq (q0 (l_p 1 tK rfl (q1 (c_ret (x_seqR (x_ret1 rfl rfl ?_))))))))))
  exact ⟨by rw [hinv, armsL_end (by omega)], hE⟩
 refine c_skip (x_seq (c_seq (q0 (l_p 1 tK rfl ?_))))
 refine lC (o_ld tK (h2.cell 9 _ rfl) rfl rfl rfl rfl rfl ?_)
 refine lC (o_len tK hk rfl rfl rfl rfl rfl ?_)
 refine l_p 2 tK rfl (q1 ?_)
 refine c_ifN _ rfl (fun c16 => ?_) (fun c16 => ?_)
 ·refine q0 (l_p 1 tK rfl (q1 (c_ret (x_seqR (x_ret1 rfl rfl ?_)))))
  have hlen : t.kids.length ≠ countE (partsS t.op) := by rw [← countTo_all (s := (partsS t.op)) (i := i) (by omega)]; omega
  exact ⟨by rw [hhd, decide_eq_false (by assumption), cond_false, decide_eq_false hlen]; rfl, hE⟩
 refine c_skip (x_seq (c_seq (q0 (l_p 1 tK rfl (q1 (c_blk ?_))))))
 have hlen : t.kids.length = countE (partsS t.op) := by rw [← countTo_all (s := (partsS t.op)) (i := i) (by omega)]; omega
 have hall : refT t arm = allL (refL (t.kids.drop 0)) := by
  rw [hhd, decide_eq_false (by assumption), cond_false, decide_eq_true hlen]; rfl
 have hcte : countTo (partsS t.op) i = t.kids.length := by rw [hlen, countTo_all (by omega)]
 have hgo : (countTo (partsS t.op) i : Int) = (t.kids.length : Int) := by omega
 refine c_loop (X := Nat) (fun j => [(2, .pointer (some ⟨b2, 0, none⟩)), (6, .int .i64 (t.kids.length : Int)), (9, .int .i64 (j : Nat))]) (fun j w' => j ≤ t.kids.length ∧ refT t arm = allL (refL (t.kids.drop j)) ∧ At M w' b2 0 [.int .u8 t.op, .string t.name, .string t.arg, .int .i64 t.n, .bool t.has, .int .u8 t.ann.op, .string t.ann.name, .int .i64 t.ann.n, akv, kv] ∧ Sl M w' kv t.kids ∧ Low M w' ∧ Below w.heap.size w w' ∧ w.heap.size ≤ w'.heap.size) (fun j => t.kids.length - j) (0) (s3 rfl (get_num rfl hgo) rfl) ?_ ?_
 ·exact ⟨Nat.zero_le _, hall, h2, hk, hlow, hE, hB⟩
 clear h2 hk hlow hE hB
 rintro j w9 ⟨hj, hinv, h2, hk, hlow, hE, hB⟩
 refine c_seq (q0 (l_p 3 tK rfl (q1 ?_)))
 refine c_ifP _ rfl (fun c17 => ?_) (fun c17 => ?_)
 ·refine c_skip (x_seq (c_seq (c_blk (q0 (l_p 1 tK rfl ?_)))))
  refine lC (o_ld tK (h2.cell 9 _ rfl) rfl rfl rfl rfl rfl ?_)
  refine l_p 1 tK rfl ?_
  have hjk : j < t.kids.length := by omega
  refine lC (o_ixS tK hk (List.getElem?_eq_getElem hjk) rfl rfl rfl rfl rfl rfl rfl rfl rfl ?_)
  intro ebx eox eux hyx hatx
  obtain ⟨akvx, kvx, rfl, opx, nmx, agx, n64x, hax, hkx⟩ := tm_open hyx
  replace hatx : At M w9 ebx eox [.int .u8 t.kids[j].op, .string t.kids[j].name, .string t.kids[j].arg, .int .i64 t.kids[j].n, .bool t.kids[j].has, .int .u8 t.kids[j].ann.op, .string t.kids[j].ann.name, .int .i64 t.kids[j].ann.n, akvx, kvx] := hatx
  refine lC (o_lds tK (fun j v hv => hatx.cell j v hv) rfl rfl rfl rfl rfl rfl ?_)
  refine lC (o_call fo10 rfl rfl rfl (ih _ (List.getElem_mem hjk) _ M _ _ hyx hlow (hz.kid (List.getElem_mem hjk))) ?_)
  rintro _ w10 ⟨rfl, ew10⟩
  replace hE := ew10.bl hE hB
  replace h2 := h2.ext ew10
  replace hk := hk.ext ew10
  replace hyx := Rep.ext hyx ew10
  replace hax := Rep.ext hax ew10
  replace hkx := hkx.ext ew10
  replace hatx := hatx.ext ew10
  replace hlow := hlow.ext ew10
  replace hB := ew10.z hB
  refine l_p 1 tK rfl (q1 ?_)
  refine c_ifB _ rfl (fun c18 => ?_) (fun c18 => ?_)
  ·refine q0 (l_p 1 tK rfl (q1 (c_ret (x_blkR (x_seqR (x_seqR (x_blkR (x_seqR (x_ret1 rfl rfl ?_)))))))))
   exact ⟨by rw [hinv, allL_step hjk]; clear ih; simp_all, hE⟩
  refine c_skip (x_blk (x_seq (c_reg (l_p 1 tK rfl ?_))))
  refine lC (o_ai rfl rfl rfl (by omega) rfl rfl ?_)
  refine l_p 1 tK rfl (l_nil ?_)
  exact x_round (j + 1) (s3 rfl rfl (get_num rfl (by omega))) ⟨by omega, by rw [hinv, allL_step hjk]; clear ih; simp_all, h2, hk, hlow, hE, hB⟩ (by omega)
 refine c_exit (x_seqE (x_seqE (x_blkE (x_seq (q0 (l_p 1 tK rfl (q1 (c_ret (x_ret1 rfl rfl ?_)))))))))
 exact ⟨by rw [hinv, allL_end (by omega)], hE⟩
theorem refTR_spec (t : Tm) (arm : Bool) (M : Nat → Prop) (w : World) (v : Value) (ht : Rep.R M w v t) (hlow : Low M w) (hz : AnnS t) :
  Calls Tryz.prog 10 #[v, .bool arm] w (Ret fun r w' => r = .bool (rightT t arm) ∧ Ext w w') := ref_right t arm ▸ refTRight_spec t arm M w v ht hlow hz
end Go.Proofs.YtohfnpmehgpphaaGreat
namespace Go.Proofs.YtohfnpmehgpphaaGreat
open Go Rw Go.RowKit
set_option maxRecDepth 100000
def aszTo (t : Tm) (i : Nat) : Nat := (((nodesL t).take i).map fun x => psz x.ann).sum
theorem aszTo_all {t : Tm} : aszTo t (nsz t) = asz t := by
 unfold aszTo asz
 rw [List.take_of_length_le (show (nodesL t).length ≤ nsz t from Nat.le_refl _)]
theorem aszTo_step {t : Tm} {i : Nat} (h : i < (nodesL t).length) : aszTo t (i + 1) = aszTo t i + psz (nodesL t)[i].ann := by
 unfold aszTo
 rw [List.take_succ_eq_append_getElem h, List.map_append, List.sum_append]
 simp
theorem aszTo_le (t : Tm) (i : Nat) : aszTo t i ≤ asz t := by
 have h : asz t = aszTo t i + (((nodesL t).drop i).map fun x => psz x.ann).sum := by
  unfold asz aszTo
  rw [← List.sum_append, ← List.map_append, List.take_append_drop]
 omega
theorem nodes_spec : ∀ (t : Tm) (M : Nat → Prop) (w : World) (v : Value), Rep.R M w v t → Low M w → nsz t ≤ 2000000 → Calls Tryz.prog 8 #[v] w (Ret fun r w' => Sl M w' r (nodesL t) ∧ Ext w w') := by
 refine Tm.ind fun t ih => ?_
 intro M w v ht hlow0 hsz
 have hlow := hlow0
 have hB : w.heap.size ≤ w.heap.size := Nat.le_refl _
 have hE : Below w.heap.size w w := Below.refl _ _
 have hsub : ∀ b, M b → M b := fun _ h => h
 obtain ⟨akv, kv, rfl, op, nm, ag, n64, ha, hk⟩ := tm_open ht
 have hps := nsz_eq t
 have hkl := len_nsz t.kids
 refine c_enter (n := 23) Tryz.func8 rfl rfl rfl ?_
 refine q0 ?_
 refine lC (o_box rfl rfl rfl ?_)
 intro b1 w1 hb_b1 ew1 h1
 replace h1 : Box _ b1 28 [.int .u8 t.op, .string t.name, .string t.arg, .int .i64 t.n, .bool t.has, .int .u8 t.ann.op, .string t.ann.name, .int .i64 t.ann.n, akv, kv] := h1
 replace h1 := h1.at (nM_of hlow hb_b1)
 replace hE := ew1.bl hE hB
 replace ht := Rep.ext ht ew1
 replace ha := Rep.ext ha ew1
 replace hk := hk.ext ew1
 replace hlow := hlow.ext ew1
 replace hB := ew1.z hB
 refine l_p 1 tK rfl (q1 (q0 ?_))
 refine lC (o_lds tK (fun j v hv => h1.cell j v hv) rfl rfl rfl rfl rfl rfl ?_)
 refine lC (o_bs tK rfl rfl rfl rfl rfl rfl rfl (sz1 rfl) rfl rfl rfl ?_)
 intro bw2 w2 qbw2 ew2 hbw2
 have sw2 := Stp.add ew2 hlow hB (Nat.le_of_eq qbw2.symm) hbw2.lt
 have le_bw2 := hB
 replace hE := hE.trans sw2.below
 replace ht := Rep.stp ht sw2
 replace ha := Rep.stp ha sw2
 replace hk := hk.stp sw2
 replace h1 := h1.stp sw2
 replace hsub := sw2.sb hsub
 replace hlow := sw2.low
 replace hB := sw2.z hB
 have ho := own_litS sw2 hbw2 (show Rs _ _ [_] [t] from ⟨ht, trivial⟩) qbw2 le_bw2 (by simp [maxLen])
 refine l_p 1 tK rfl (q1 (c_seq (q0 (l_p 1 tK rfl (q1 (c_blk ?_))))))
 refine c_loop3 (X := Nat) (Y := Value) (Z := Nat → Prop) (fun i v M1 => [(1, .pointer (some ⟨b1, 0, none⟩)), (3, v), (4, .int .i64 (i : Nat))]) (fun i v M1 w' => i ≤ t.kids.length ∧ OwnSl 28 w.heap.size M1 w' v (t :: (t.kids.take i).flatMap nodesL) ∧ At M1 w' b1 0 [.int .u8 t.op, .string t.name, .string t.arg, .int .i64 t.n, .bool t.has, .int .u8 t.ann.op, .string t.ann.name, .int .i64 t.ann.n, akv, kv] ∧ Sl M1 w' kv t.kids ∧ Low M1 w' ∧ (∀ b, M b → M1 b) ∧ Below w.heap.size w w' ∧ w.heap.size ≤ w'.heap.size) (fun i v M1 => t.kids.length - i) (0) (.slice (some ⟨bw2, 0, none⟩) 1 1) ((Rw.Add M bw2)) (s3 rfl rfl rfl) ?_ ?_
 ·exact ⟨Nat.zero_le _, ho, h1, hk, hlow, hsub, hE, hB⟩
 clear ho h1 ht ha hk hlow hsub hE hB
 rintro i v M1 w3 ⟨hi, ho, h1, hk, hlow, hsub, hE, hB⟩
 refine c_seq (q0 (l_p 2 tK rfl ?_))
 refine lC (o_ld tK (h1.cell 9 _ rfl) rfl rfl rfl rfl rfl ?_)
 refine lC (o_len tK hk rfl rfl rfl rfl rfl ?_)
 refine l_p 1 tK rfl (q1 ?_)
 refine c_ifP _ rfl (fun c1 => ?_) (fun c1 => ?_)
 ·refine c_skip (x_seq (c_seq (c_blk (c_reg (l_p 2 tK rfl ?_)))))
  refine lC (o_ld tK (h1.cell 9 _ rfl) rfl rfl rfl rfl rfl ?_)
  refine l_p 1 tK rfl ?_
  have hik : i < t.kids.length := by omega
  have hp1 := nsz_get hik
  have hp2 := take_nsz t.kids i
  refine lC (o_ixS tK hk (List.getElem?_eq_getElem hik) rfl rfl rfl rfl rfl rfl rfl rfl rfl ?_)
  intro ebx eox eux hyx hatx
  obtain ⟨akvx, kvx, rfl, opx, nmx, agx, n64x, hax, hkx⟩ := tm_open hyx
  replace hatx : At M1 w3 ebx eox [.int .u8 t.kids[i].op, .string t.kids[i].name, .string t.kids[i].arg, .int .i64 t.kids[i].n, .bool t.kids[i].has, .int .u8 t.kids[i].ann.op, .string t.kids[i].ann.name, .int .i64 t.kids[i].ann.n, akvx, kvx] := hatx
  refine lC (o_lds tK (fun j v hv => hatx.cell j v hv) rfl rfl rfl rfl rfl rfl ?_)
  refine lC (o_call fo8 rfl rfl rfl (ih _ (List.getElem_mem hik) _ _ _ hyx hlow (by omega)) ?_)
  rintro vhr w4 ⟨hr, ew4⟩
  replace ho := ho.ext hlow hB ew4
  replace hE := ew4.bl hE hB
  replace h1 := h1.ext ew4
  replace hk := hk.ext ew4
  replace hyx := Rep.ext hyx ew4
  replace hax := Rep.ext hax ew4
  replace hkx := hkx.ext ew4
  replace hatx := hatx.ext ew4
  replace hlow := hlow.ext ew4
  replace hB := ew4.z hB
  have e1 : (t :: (t.kids.take i).flatMap nodesL).length = nszs (t.kids.take i) + 1 := rfl
  have e2 : (nodesL t.kids[i]).length = nsz t.kids[i] := rfl
  have e3 := take_nsz t.kids (i + 1)
  rw [nszs_take hik] at e3
  refine lC (o_app tK ho hr hlow hB rfl rfl rfl rfl rfl rfl rfl (by omega) (by rw [e1, e2]; show _ * 136 ≤ _; omega) rfl rfl ?_)
  intro vw5 w5 Mw5 hw5 sw5 frw5 blw5
  replace hE := hE.trans sw5.below
  replace h1 := h1.stp sw5
  replace hk := hk.stp sw5
  replace hyx := Rep.stp hyx sw5
  replace hax := Rep.stp hax sw5
  replace hkx := hkx.stp sw5
  replace hatx := hatx.stp sw5
  replace hr := hr.stp sw5
  replace hsub := sw5.sb hsub
  replace hlow := sw5.low
  replace hB := sw5.z hB
  replace ho := hw5
  clear hw5
  refine l_p 1 tK rfl (q2 (x_seq (c_reg (l_p 1 tK rfl ?_))))
  refine lC (o_ai rfl rfl rfl (by omega) rfl rfl ?_)
  refine l_p 1 tK rfl (l_nil ?_)
  exact x_round3 (i + 1) (vw5) (Mw5) (s3 rfl rfl rfl) ⟨by omega, by rw [ntake_step hik]; exact ho, h1, hk, hlow, hsub, hE, hB⟩ (by omega)
 refine c_exit (x_seqE (x_seqE (x_blkE (x_seq (q0 (l_p 2 tK rfl (q1 (c_ret (x_ret1 rfl rfl ?_)))))))))
 obtain rfl : i = t.kids.length := by omega
 rw [List.take_of_length_le (Nat.le_refl _), ← nodesL_eq] at ho
 exact ⟨ho.sl (by have : (nodesL t).length = nsz t := rfl; omega) hlow0 hsub, hE⟩
theorem many5_spec (t : Tm) (M : Nat → Prop) (w : World) (v : Value) (ht : Rep.R M w v t) (hlow : Low M w) (hz : AnnS t) (hn : nsz t ≤ 2000000) (has : asz t ≤ 2000000) :
  Calls Tryz.prog 7 #[v] w (Ret fun r w' => r = .bool (decide ((300 : Int) < (nsz t : Int)) || decide ((900 : Int) < (asz t : Int))) ∧ Ext w w') := by
 have hE : Below w.heap.size w w := Below.refl _ _
 have hB : w.heap.size ≤ w.heap.size := Nat.le_refl _
 obtain ⟨akv, kv, rfl, op, nm, ag, n64, ha, hk⟩ := tm_open ht
 refine c_enter (n := 30) Tryz.func7 rfl rfl rfl ?_
 refine q0 ?_
 refine lC (o_box rfl rfl rfl ?_)
 intro b3 w1 hb_b3 ew1 h3
 replace h3 : Box _ b3 28 [.int .u8 t.op, .string t.name, .string t.arg, .int .i64 t.n, .bool t.has, .int .u8 t.ann.op, .string t.ann.name, .int .i64 t.ann.n, akv, kv] := h3
 replace h3 := h3.at (nM_of hlow hb_b3)
 replace hE := ew1.bl hE hB
 replace ht := Rep.ext ht ew1
 replace ha := Rep.ext ha ew1
 replace hk := hk.ext ew1
 replace hlow := hlow.ext ew1
 replace hB := ew1.z hB
 refine l_p 1 tK rfl (q1 (q0 ?_))
 refine lC (o_lds tK (fun j v hv => h3.cell j v hv) rfl rfl rfl rfl rfl rfl ?_)
 refine lC (o_call fo8 rfl rfl rfl (nodes_spec t M _ _ ht hlow hn) ?_)
 rintro vhl w2 ⟨hl, ew2⟩
 replace hE := ew2.bl hE hB
 replace ht := Rep.ext ht ew2
 replace ha := Rep.ext ha ew2
 replace hk := hk.ext ew2
 replace h3 := h3.ext ew2
 replace hlow := hlow.ext ew2
 replace hB := ew2.z hB
 have hll : (nodesL t).length = nsz t := rfl
 refine l_p 1 tK rfl (q1 (q0 (l_p 1 tK rfl (q1 (c_seq (q0 (l_p 1 tK rfl (q1 (c_blk ?_)))))))))
 refine c_loop (X := Nat) (fun i => [(3, vhl), (4, .int .i64 (aszTo t i : Nat)), (5, .int .i64 (i : Nat))]) (fun i w' => i ≤ nsz t ∧ Sl M w' vhl (nodesL t) ∧ Low M w' ∧ Below w.heap.size w w' ∧ w.heap.size ≤ w'.heap.size) (fun i => nsz t - i) (0) (s3 rfl rfl rfl) ?_ ?_
 ·exact ⟨Nat.zero_le _, hl, hlow, hE, hB⟩
 clear hl h3 ht ha hk hlow hE hB
 rintro i w3 ⟨hi, hl, hlow, hE, hB⟩
 have hat := aszTo_le t i
 refine c_seq (q0 (l_p 2 tK rfl ?_))
 refine lC (o_len tK hl rfl rfl rfl rfl rfl ?_)
 refine l_p 1 tK rfl (q1 ?_)
 refine c_ifP _ rfl (fun c1 => ?_) (fun c1 => ?_)
 ·refine c_skip (x_seq (c_seq (c_blk (c_reg (l_p 3 tK rfl ?_)))))
  have hik : i < (nodesL t).length := by omega
  have hpa := hz _ (List.getElem_mem hik)
  have hst := aszTo_step hik
  have hat2 := aszTo_le t (i + 1)
  refine lC (o_ixS tK hl (List.getElem?_eq_getElem hik) rfl rfl rfl rfl rfl rfl rfl rfl rfl ?_)
  intro ebx eox eux hyx hatx
  obtain ⟨akvx, kvx, rfl, opx, nmx, agx, n64x, hax, hkx⟩ := tm_open hyx
  replace hatx : At M w3 ebx eox [.int .u8 (nodesL t)[i].op, .string (nodesL t)[i].name, .string (nodesL t)[i].arg, .int .i64 (nodesL t)[i].n, .bool (nodesL t)[i].has, .int .u8 (nodesL t)[i].ann.op, .string (nodesL t)[i].ann.name, .int .i64 (nodesL t)[i].ann.n, akvx, kvx] := hatx
  refine l_p 1 tK rfl ?_
  refine lC (o_lds tK (fun j v hv => (hatx).mid 5 (sub := [.int .u8 (nodesL t)[i].ann.op, .string (nodesL t)[i].ann.name, .int .i64 (nodesL t)[i].ann.n, akvx]) rfl j v hv) rfl rfl rfl rfl rfl rfl ?_)
  refine lC (o_call fo25 rfl rfl rfl (parts_spec _ M _ _ hax hlow hpa) ?_)
  rintro vhpt w4 ⟨hpt, ew4⟩
  replace hE := ew4.bl hE hB
  replace hl := hl.ext ew4
  replace hyx := Rep.ext hyx ew4
  replace hax := Rep.ext hax ew4
  replace hkx := hkx.ext ew4
  replace hatx := hatx.ext ew4
  replace hlow := hlow.ext ew4
  replace hB := ew4.z hB
  have hpl : (partsL (nodesL t)[i].ann).length = psz (nodesL t)[i].ann := rfl
  refine lC (o_len tK hpt rfl rfl rfl rfl rfl ?_)
  refine lC (o_ai rfl rfl rfl (by omega) rfl rfl ?_)
  refine l_p 1 tK rfl (q2 (x_seq (c_reg (l_p 1 tK rfl ?_))))
  refine lC (o_ai rfl rfl rfl (by omega) rfl rfl ?_)
  refine l_p 1 tK rfl (l_nil ?_)
  exact x_round (i + 1) (s3 rfl (get_num rfl (by rw [aszTo_step hik]; rfl)) (get_num rfl (by omega))) ⟨by omega, hl, hlow, hE, hB⟩ (by omega)
 refine c_exit (x_seqE (x_seqE (x_blkE (x_seq (q0 (l_p 1 tK rfl ?_))))))
 refine lC (o_len tK hl rfl rfl rfl rfl rfl ?_)
 refine l_p 2 tK rfl ?_
 obtain rfl : i = nsz t := by omega
 rw [aszTo_all]
 refine l_splitP 26 _ rfl (fun c2 => ?_) (fun c2 => ?_)
 ·refine l_p 4 tK rfl (q1 (c_ret (x_ret1 rfl rfl ?_)))
  exact ⟨by rw [decide_eq_true (show (300 : Int) < (nsz t : Int) by omega)]; rfl, hE⟩
 refine l_p 4 tK rfl (q1 (c_ret (x_ret1 rfl rfl ?_)))
 exact ⟨by rw [decide_eq_false (show ¬ (300 : Int) < (nsz t : Int) by omega), Bool.false_or], hE⟩
end Go.Proofs.YtohfnpmehgpphaaGreat
namespace Rw
open Go Go.RowKit
theorem Ret.out {R : Value → World → Prop} {e : Ending} {w : World} (h : Ret R e w) : ∃ v, e = .returned v ∧ R v w := by
  cases e with
  | returned v => exact ⟨v, rfl, h⟩
  | _ => exact h.elim
/-! ## What the form's reach pays -/
end Rw
namespace Rw
open Go Go.RowKit
open Go.Proofs.YtohfnpmehgpphaaGreat.Rows (uptoBulk uptoBulkAll uptoSmall)
section
variable {H : Type}
theorem bulk_one (d : DataW H) : 1 ≤ uptoBulk d := by
  cases d with
  | lit l => cases l <;> simp [uptoBulk]
  | nil => simp [uptoBulk]
  | ptr d => simp [uptoBulk]
  | slice elems spare => simp [uptoBulk]
  | agg parts => simp [uptoBulk]
  | iface t d => simp [uptoBulk]
  | map entries => simp [uptoBulk]
  | held h => simp [uptoBulk]
theorem bulk_all : ∀ (l : List (DataW H)), uptoBulkAll l = (l.map uptoBulk).sum
  | [] => by simp [uptoBulkAll]
  | x :: r => by simp [uptoBulkAll, bulk_all r]
theorem bulk_str (l : List UInt8) : uptoBulk (DataW.lit (H := H) (.string l)) = l.length + 1 := by simp [uptoBulk]
theorem bulk_slice (l s : List (DataW H)) : uptoBulk (.slice l s) = uptoBulkAll l + uptoBulkAll s + 1 := by simp [uptoBulk]
theorem bulk_agg (l : List (DataW H)) : uptoBulk (.agg l) = uptoBulkAll l + 1 := by simp [uptoBulk]
theorem bulk_len (l : List (DataW H)) : l.length ≤ uptoBulkAll l := by
  induction l with
  | nil => simp
  | cons x r ih => have := bulk_one x; simp only [uptoBulkAll, List.length_cons]; omega
theorem bulk_mem {l : List (DataW H)} {d : DataW H} (h : d ∈ l) : uptoBulk d ≤ uptoBulkAll l := by
  induction l with
  | nil => cases h
  | cons x r ih =>
    simp only [uptoBulkAll]
    rcases List.mem_cons.1 h with e | e
    · subst e; omega
    · have := ih e; omega
theorem bulk_each {l : List (DataW H)} (h : uptoSmall H l = true) {j : Nat} {d : DataW H} (hd : l[j]? = some d) : uptoBulk d ≤ 1048576 := by
  have h1 : uptoBulkAll l ≤ 1048576 := by simpa [uptoSmall] using h
  exact Nat.le_trans (bulk_mem (List.mem_of_getElem? hd)) h1
/-- A type's readings, of bulk up to N, are things of α, of size at most that bulk. -/
structure OpensD (H : Type) {α : Type} [Rep α] (P : Program) (t : TypeId) (N : Nat) (sz : α → Nat) : Prop where
  cells : P.cellsOf t = Rep.sz α
  read : ∀ (enc : TypeId × Value → H) (w : World) (fuel : Nat) (cs : List Value) (d : DataW H) (ps : List MemPlace), DataW.trod enc P w 0 (fun _ => true) true fuel t cs = some (d, ps) → uptoBulk d ≤ N →
    ∃ (v : Value) (x : α), v.cells.toList = cs ∧ Rep.R NoM w v x ∧ sz x ≤ uptoBulk d
variable {P : Program}
theorem opensD_int {t : TypeId} (N : Nat) (ht : P.underlying t = some (.int .i64)) (hc : P.cellsOf t = 1) : OpensD H (α := Int) P t N (fun _ => 1) := by
  refine ⟨hc, fun enc w fuel cs d ps h _ => ?_⟩
  obtain ⟨n, rfl, _, hw⟩ := DataW.trod_int ht h
  refine ⟨.int .i64 n, n, rfl, ⟨rfl, ?_⟩, bulk_one d⟩
  have : -9223372036854775808 ≤ n ∧ n ≤ 9223372036854775807 := by simpa [Lit.wf, IntKind.min, IntKind.max, IntKind.signed, IntKind.bits] using hw
  exact this
theorem opensD_string {t : TypeId} (N : Nat) (hN : N < 140737488355328) (ht : P.underlying t = some .string) (hc : P.cellsOf t = 1) : OpensD H (α := ByteArray) P t N (fun s => 1 + s.size) := by
  refine ⟨hc, fun enc w fuel cs d ps h hQ => ?_⟩
  obtain ⟨s, rfl, hx, _⟩ := DataW.trod_string ht h
  cases hx
  rw [bulk_str] at hQ ⊢
  have e : s.data.toList.length = s.size := by simp
  exact ⟨.string s, s, rfl, ⟨rfl, by omega⟩, by omega⟩
theorem sum_le {α : Type} (f g : α → Nat) : ∀ (l : List α), (∀ x ∈ l, f x ≤ g x) → (l.map f).sum ≤ (l.map g).sum
  | [], _ => by simp
  | x :: l, h => by
    have := sum_le f g l (fun y hy => h y (List.mem_cons_of_mem _ hy))
    have := h x List.mem_cons_self
    simp only [List.map_cons, List.sum_cons]; omega
theorem opensD_slice {α : Type} [Rep α] {sz : α → Nat} {t e : TypeId} (N : Nat) (hN : N < 140737488355328) (ht : P.underlying t = some (.slice e)) (hc : P.cellsOf t = 1) (he : OpensD H P e (N - 1) sz) : OpensD H (α := List α) P t N (fun l => 1 + (l.map sz).sum) := by
  refine ⟨hc, fun enc w fuel cs d ps h hQ => ?_⟩
  rcases Go.Deep.open_slice ht h with ⟨rfl, _⟩ | ⟨a, len, cap, m, n, D, Pl, rfl, _, hl, _, hm, hx, hel⟩
  · exact ⟨.slice none 0 0, [], rfl, sl_nil, by have := bulk_one d; simpa using this⟩
  · have hm' : m = cap := by simpa using hm
    subst hm'
    have hd : d = .slice ((List.range len).map D) ((List.range (m - len)).map fun j => D (len + j)) := congrArg Prod.fst hx
    subst hd
    rw [bulk_slice] at hQ ⊢
    have hlen := bulk_len ((List.range len).map D)
    rw [List.length_map, List.length_range] at hlen
    have hlen' : len < 140737488355328 := by omega
    rw [he.cells] at hel
    have each : ∀ i : Fin len, ∃ y : Value × α, w.cells? 0 (a.add (i.1 * Rep.sz α)) (Rep.sz α) = some y.1.cells.toList ∧ Rep.R NoM w y.1 y.2 ∧ sz y.2 ≤ uptoBulk (D i.1) := by
      intro i
      obtain ⟨cs', h1, h2⟩ := hel i.1 (Nat.lt_of_lt_of_le i.2 hl)
      have hi : uptoBulk (D i.1) ≤ uptoBulkAll ((List.range len).map D) := bulk_mem (List.mem_map.2 ⟨i.1, List.mem_range.2 i.2, rfl⟩)
      obtain ⟨v, x, hv, hR, hp⟩ := he.read enc w n cs' _ _ h2 (by omega)
      exact ⟨(v, x), by rw [hv]; exact h1, hR, hp⟩
    obtain ⟨f, hf⟩ := Classical.axiomOfChoice each
    refine ⟨.slice (some a) len m, List.ofFn fun i => (f i).2, rfl, ⟨some a, m, by simp, by simpa using hlen', by simpa using hl, ?_⟩, ?_⟩
    · by_cases h0 : len = 0
      · subst h0; left; simp
      · right
        have hpos : 0 < Rep.sz α := Rep.pos
        obtain ⟨_, _, hc0⟩ := World.cells?_some (hf ⟨0, by omega⟩).1
        have hc00 := hc0 0 hpos
        have hlen0 := Rep.size (hf ⟨0, by omega⟩).2.1
        obtain ⟨b, off, spot⟩ := a
        have hsome : ∃ v, w.cell? ⟨b, off, spot⟩ = some v := by
          have e1 : (Addr.add ⟨b, off, spot⟩ (0 * Rep.sz α)).add 0 = ⟨b, off, spot⟩ := by simp [Addr.add]
          rw [e1] at hc00
          refine ⟨_, hc00.trans (List.getElem?_eq_getElem (by simpa [hlen0] using hpos))⟩
        obtain ⟨v0, hv0⟩ := hsome
        have hsp : spot = none := by
          cases spot with
          | none => rfl
          | some s => simp [World.cell?] at hv0; split at hv0 <;> simp at hv0
        subst hsp
        have hb : b < w.heap.size := by
          rcases Nat.lt_or_ge b w.heap.size with h | h
          · exact h
          · simp [World.cell?, Array.getElem?_eq_none h] at hv0
        refine ⟨b, off, rfl, fun i x hi => ?_⟩
        have hi' : i < len := by
          have := (List.getElem?_eq_some_iff.1 hi).1
          simpa using this
        have hxe : x = (f ⟨i, hi'⟩).2 := by
          rw [List.getElem?_ofFn, dif_pos hi'] at hi
          simpa using hi.symm
        subst hxe
        refine ⟨(f ⟨i, hi'⟩).1, (hf ⟨i, hi'⟩).2.1, hb, fun h => h.elim, fun j c hj => ?_⟩
        obtain ⟨_, hl2, hc2⟩ := World.cells?_some (hf ⟨i, hi'⟩).1
        have hj' : j < Rep.sz α := by rw [← hl2]; exact (List.getElem?_eq_some_iff.1 hj).1
        have := hc2 j hj'
        rw [addr_add, addr_add, hj] at this
        exact this
    · rw [bulk_all, List.map_map]
      have e1 : (List.range len).map (uptoBulk ∘ D) = List.ofFn fun i : Fin len => uptoBulk (D i.1) := by
        apply List.ext_getElem
        · simp
        · intro i h1 h2
          simp
      have e2 : (List.ofFn fun i => (f i).2).map sz = List.ofFn fun i : Fin len => sz (f i).2 := by rw [List.map_ofFn]; rfl
      rw [e1, e2]
      have key : ∀ (n : Nat) (g h : Fin n → Nat), (∀ i, g i ≤ h i) → (List.ofFn g).sum ≤ (List.ofFn h).sum := by
        intro n
        induction n with
        | zero => intro g h _; simp
        | succ n ih =>
          intro g h hgh
          rw [List.ofFn_succ, List.ofFn_succ, List.sum_cons, List.sum_cons]
          have := ih (fun i => g i.succ) (fun i => h i.succ) (fun i => hgh _)
          have := hgh 0
          omega
      have := key len _ _ (fun i => (hf i).2.2)
      omega
/-- A type's size: its parts and their names. -/
def tsz (t : Ty) : Nat := ((partsL t).map fun x => 1 + x.name.size).sum
theorem tsz_eq (t : Ty) : tsz t = 1 + t.name.size + (t.kids.map tsz).sum := by
  unfold tsz
  rw [partsL_eq, List.map_cons, List.sum_cons]
  congr 1
  induction t.kids with
  | nil => rfl
  | cons k r ih => rw [List.flatMap_cons, List.map_append, List.sum_append, ih, List.map_cons, List.sum_cons]
theorem psz_tsz (t : Ty) : psz t ≤ tsz t := by
  show (partsL t).length ≤ _
  unfold tsz
  induction partsL t with
  | nil => simp
  | cons k r ih => simp only [List.length_cons, List.map_cons, List.sum_cons]; omega
theorem opensD_ty {t tOp tStr tInt tSl : TypeId} {f0 f1 f2 f3 : Field} (ht : P.underlying t = some (.struct #[f0, f1, f2, f3])) (h0 : f0.offset = 0 ∧ f0.type = tOp) (h1 : f1.offset = 1 ∧ f1.type = tStr) (h2 : f2.offset = 2 ∧ f2.type = tInt) (h3 : f3.offset = 3 ∧ f3.type = tSl)
    (uOp : P.underlying tOp = some (.int .u8)) (cOp : P.cellsOf tOp = 1) (uStr : P.underlying tStr = some .string) (cStr : P.cellsOf tStr = 1) (uInt : P.underlying tInt = some (.int .i64)) (cInt : P.cellsOf tInt = 1) (uSl : P.underlying tSl = some (.slice t)) (cSl : P.cellsOf tSl = 1) (cT : P.cellsOf t = 4) :
    ∀ N, N < 140737488355328 → OpensD H (α := Ty) P t N tsz := by
  intro N
  induction N with
  | zero => exact fun _ => ⟨cT, fun enc w fuel cs d ps h hQ => by have := bulk_one d; omega⟩
  | succ N ih =>
    intro hN
    have ihS := opensD_slice (H := H) (P := P) (N + 1) hN uSl cSl (ih (by omega))
    refine ⟨cT, fun enc w fuel cs d ps h hQ => ?_⟩
    obtain ⟨xs, n, _, hx, hl, hxl, hf⟩ := DataW.trod_struct ht h
    cases hx
    rw [cT] at hl
    obtain ⟨c0, c1, c2, c3, rfl⟩ : ∃ c0 c1 c2 c3, cs = [c0, c1, c2, c3] := by
      rcases cs with _ | ⟨c0, _ | ⟨c1, _ | ⟨c2, _ | ⟨c3, _ | ⟨c4, r⟩⟩⟩⟩⟩ <;> simp at hl
      exact ⟨c0, c1, c2, c3, rfl⟩
    obtain ⟨x0, x1, x2, x3, rfl⟩ : ∃ x0 x1 x2 x3, xs = [x0, x1, x2, x3] := by
      rcases xs with _ | ⟨c0, _ | ⟨c1, _ | ⟨c2, _ | ⟨c3, _ | ⟨c4, r⟩⟩⟩⟩⟩ <;> simp at hxl
      exact ⟨c0, c1, c2, c3, rfl⟩
    have g0 := hf 0 f0 rfl
    have g1 := hf 1 f1 rfl
    have g2 := hf 2 f2 rfl
    have g3 := hf 3 f3 rfl
    rw [h0.1, h0.2, cOp] at g0
    rw [h1.1, h1.2, cStr] at g1
    rw [h2.1, h2.2, cInt] at g2
    rw [h3.1, h3.2, cSl] at g3
    simp only [List.drop_zero, List.drop_succ_cons, List.take_succ_cons, List.take_zero, List.getElem?_cons_zero, List.getElem?_cons_succ] at g0 g1 g2 g3
    rw [bulk_agg] at hQ ⊢
    simp only [List.map_cons, List.map_nil, uptoBulkAll] at hQ ⊢
    obtain ⟨op, e0, _, w0⟩ := DataW.trod_int uOp g0
    obtain ⟨v1, s, e1, r1, z1⟩ := (opensD_string (H := H) (P := P) (N + 1) hN uStr cStr).read enc w n _ _ _ g1 (by omega)
    obtain ⟨v2, m, e2, r2, _⟩ := (opensD_int (H := H) (P := P) (N + 1) uInt cInt).read enc w n _ _ _ g2 (by omega)
    obtain ⟨v3, l, e3, r3, z3⟩ := ihS.read enc w n _ _ _ g3 (by omega)
    obtain ⟨rfl, hs⟩ := r1
    obtain ⟨rfl, hm⟩ := r2
    have hop : 0 ≤ op ∧ op ≤ 255 := by simpa [Lit.wf, IntKind.min, IntKind.max, IntKind.signed, IntKind.bits] using w0
    have r3' : Sl NoM w v3 l := r3
    have e3' := r3'.cells
    refine ⟨.agg #[.int .u8 op, .string s, .int .i64 m, v3], .mk op s m l, ?_, ty_mk hop hs hm r3', ?_⟩
    · rw [e3'] at e3
      simp [Value.cells] at e0 e1 e2 e3 ⊢
      simp [*]
    · rw [tsz_eq]
      show 1 + s.size + (l.map tsz).sum ≤ _
      have := bulk_one x0.1
      have := bulk_one x2.1
      omega
theorem opensD_arg {α : Type} [Rep α] {sz : α → Nat} {t : TypeId} {N : Nat} (ho : OpensD H P t N sz) {enc : TypeId × Value → H} {w : World} {v : Value} {d : DataW H} {ps : List MemPlace}
    (h : DataW.Trod enc P w 0 (fun _ => true) true t v d ps) (hd : uptoBulk d ≤ N) : ∃ (u : Value) (x : α), u.cells = v.cells ∧ Rep.R NoM w u x ∧ sz x ≤ N := by
  obtain ⟨fuel, hf⟩ := h
  obtain ⟨u, x, hv, hR, hp⟩ := ho.read enc w fuel _ _ _ hf hd
  exact ⟨u, x, Array.toList_inj.1 hv, hR, by omega⟩
end
theorem agg_of {u : Value} {a : Array Value} (h : u.cells = (Value.agg a).cells) (hu : ∃ b, u = .agg b) : u = .agg a := by
  obtain ⟨b, rfl⟩ := hu
  simp [Value.cells] at h
  rw [h]
end Rw
namespace Rw
open Go Go.RowKit
open Go.Proofs.YtohfnpmehgpphaaGreat.Rows (uptoBulk uptoBulkAll uptoSmall)
/-- An expression's size: its nodes, their names, their annotations. -/
def tmsz (t : Tm) : Nat := ((nodesL t).map fun x => 1 + x.name.size + x.arg.size + tsz x.ann).sum
theorem tmsz_eq (t : Tm) : tmsz t = 1 + t.name.size + t.arg.size + tsz t.ann + (t.kids.map tmsz).sum := by
  unfold tmsz
  rw [nodesL_eq, List.map_cons, List.sum_cons]
  congr 1
  induction t.kids with
  | nil => rfl
  | cons k r ih => rw [List.flatMap_cons, List.map_append, List.sum_append, ih, List.map_cons, List.sum_cons]
theorem sum_in {α : Type} (f : α → Nat) : ∀ (l : List α) (x : α), x ∈ l → f x ≤ (l.map f).sum
  | y :: l, x, h => by
    rw [List.map_cons, List.sum_cons]
    rcases List.mem_cons.1 h with rfl | h
    · omega
    · have := sum_in f l x h; omega
theorem sum_len {α : Type} (f : α → Nat) (hf : ∀ x, 1 ≤ f x) : ∀ (l : List α), l.length ≤ (l.map f).sum
  | [] => Nat.le_refl _
  | y :: l => by
    have h1 := sum_len f hf l
    have h2 := hf y
    rw [List.map_cons, List.sum_cons, List.length_cons]; omega
theorem nsz_tmsz (t : Tm) : nsz t ≤ tmsz t := sum_len _ (fun x => by omega) _
theorem ann_tmsz {t x : Tm} (h : x ∈ nodesL t) : psz x.ann ≤ tmsz t := by
  have h1 := sum_in (fun x => 1 + x.name.size + x.arg.size + tsz x.ann) (nodesL t) x h
  have h2 := psz_tsz x.ann
  have h3 : ((nodesL t).map fun x => 1 + x.name.size + x.arg.size + tsz x.ann).sum = tmsz t := rfl
  omega
theorem annS_tmsz {t : Tm} (h : tmsz t ≤ 2000000) : AnnS t := fun x hx => by have := ann_tmsz hx; omega
theorem asz_tmsz (t : Tm) : asz t ≤ tmsz t := by
  unfold asz tmsz
  refine sum_le _ _ _ (fun x _ => ?_)
  have := psz_tsz x.ann
  omega
theorem tm_agg {w : World} {M : Nat → Prop} {u : Value} {t : Tm} (h : Rep.R M w u t) : ∃ a, u = .agg a := by
  obtain ⟨akv, kv, e, _⟩ := tm_open h
  exact ⟨_, e⟩
section
variable {H : Type} {P : Program}
theorem opensD_bool {t : TypeId} (N : Nat) (ht : P.underlying t = some .bool) (hc : P.cellsOf t = 1) : OpensD H (α := Bool) P t N (fun _ => 1) := by
  refine ⟨hc, fun enc w fuel cs d ps h _ => ?_⟩
  obtain ⟨b, rfl, e⟩ := DataW.trod_bool ht h
  cases e
  exact ⟨.bool b, b, rfl, rfl, bulk_one _⟩
theorem opensD_tm {t tOp tStr tInt tBool tTy tSl : TypeId} {f0 f1 f2 f3 f4 f5 f6 : Field} (ht : P.underlying t = some (.struct #[f0, f1, f2, f3, f4, f5, f6])) (h0 : f0.offset = 0 ∧ f0.type = tOp) (h1 : f1.offset = 1 ∧ f1.type = tStr) (h2 : f2.offset = 2 ∧ f2.type = tStr)
    (h3 : f3.offset = 3 ∧ f3.type = tInt) (h4 : f4.offset = 4 ∧ f4.type = tBool) (h5 : f5.offset = 5 ∧ f5.type = tTy) (h6 : f6.offset = 9 ∧ f6.type = tSl)
    (uOp : P.underlying tOp = some (.int .u8)) (cOp : P.cellsOf tOp = 1) (uStr : P.underlying tStr = some .string) (cStr : P.cellsOf tStr = 1) (uInt : P.underlying tInt = some (.int .i64)) (cInt : P.cellsOf tInt = 1) (uBool : P.underlying tBool = some .bool) (cBool : P.cellsOf tBool = 1)
    (uSl : P.underlying tSl = some (.slice t)) (cSl : P.cellsOf tSl = 1) (oT : ∀ N, N < 140737488355328 → OpensD H (α := Ty) P tTy N tsz) (cT : P.cellsOf t = 10) :
    ∀ N, N < 140737488355328 → OpensD H (α := Tm) P t N tmsz := by
  intro N
  induction N with
  | zero => exact fun _ => ⟨cT, fun enc w fuel cs d ps h hQ => by have := bulk_one d; omega⟩
  | succ N ih =>
    intro hN
    have ihS := opensD_slice (H := H) (P := P) (N + 1) hN uSl cSl (ih (by omega))
    refine ⟨cT, fun enc w fuel cs d ps h hQ => ?_⟩
    obtain ⟨xs, n, _, hx, hl, hxl, hf⟩ := DataW.trod_struct ht h
    cases hx
    rw [cT] at hl
    obtain ⟨c0, c1, c2, c3, c4, c5, c6, c7, c8, c9, rfl⟩ : ∃ c0 c1 c2 c3 c4 c5 c6 c7 c8 c9, cs = [c0, c1, c2, c3, c4, c5, c6, c7, c8, c9] := by
      rcases cs with _ | ⟨c0, _ | ⟨c1, _ | ⟨c2, _ | ⟨c3, _ | ⟨c4, _ | ⟨c5, _ | ⟨c6, _ | ⟨c7, _ | ⟨c8, _ | ⟨c9, _ | ⟨c10, r⟩⟩⟩⟩⟩⟩⟩⟩⟩⟩⟩ <;> simp at hl
      exact ⟨c0, c1, c2, c3, c4, c5, c6, c7, c8, c9, rfl⟩
    obtain ⟨x0, x1, x2, x3, x4, x5, x6, rfl⟩ : ∃ x0 x1 x2 x3 x4 x5 x6, xs = [x0, x1, x2, x3, x4, x5, x6] := by
      rcases xs with _ | ⟨c0, _ | ⟨c1, _ | ⟨c2, _ | ⟨c3, _ | ⟨c4, _ | ⟨c5, _ | ⟨c6, _ | ⟨c7, r⟩⟩⟩⟩⟩⟩⟩⟩ <;> simp at hxl
      exact ⟨c0, c1, c2, c3, c4, c5, c6, rfl⟩
    have g0 := hf 0 f0 rfl
    have g1 := hf 1 f1 rfl
    have g2 := hf 2 f2 rfl
    have g3 := hf 3 f3 rfl
    have g4 := hf 4 f4 rfl
    have g5 := hf 5 f5 rfl
    have g6 := hf 6 f6 rfl
    rw [h0.1, h0.2, cOp] at g0
    rw [h1.1, h1.2, cStr] at g1
    rw [h2.1, h2.2, cStr] at g2
    rw [h3.1, h3.2, cInt] at g3
    rw [h4.1, h4.2, cBool] at g4
    rw [h5.1, h5.2, (oT (N + 1) hN).cells, show Rep.sz Ty = 4 from rfl] at g5
    rw [h6.1, h6.2, cSl] at g6
    simp only [List.drop_zero, List.drop_succ_cons, List.take_succ_cons, List.take_zero, List.getElem?_cons_zero, List.getElem?_cons_succ] at g0 g1 g2 g3 g4 g5 g6
    rw [bulk_agg] at hQ ⊢
    simp only [List.map_cons, List.map_nil, uptoBulkAll] at hQ ⊢
    obtain ⟨op, e0, _, w0⟩ := DataW.trod_int uOp g0
    obtain ⟨v1, s, e1, r1, z1⟩ := (opensD_string (H := H) (P := P) (N + 1) hN uStr cStr).read enc w n _ _ _ g1 (by omega)
    obtain ⟨v2, ar, e2, r2, z2⟩ := (opensD_string (H := H) (P := P) (N + 1) hN uStr cStr).read enc w n _ _ _ g2 (by omega)
    obtain ⟨v3, m, e3, r3, _⟩ := (opensD_int (H := H) (P := P) (N + 1) uInt cInt).read enc w n _ _ _ g3 (by omega)
    obtain ⟨v4, b, e4, r4, _⟩ := (opensD_bool (H := H) (P := P) (N + 1) uBool cBool).read enc w n _ _ _ g4 (by omega)
    obtain ⟨v5, a, e5, r5, z5⟩ := (oT (N + 1) hN).read enc w n _ _ _ g5 (by omega)
    obtain ⟨v6, l, e6, r6, z6⟩ := ihS.read enc w n _ _ _ g6 (by omega)
    obtain ⟨rfl, hs⟩ := r1
    obtain ⟨rfl, har⟩ := r2
    obtain ⟨rfl, hm⟩ := r3
    obtain rfl : v4 = .bool b := r4
    obtain ⟨akv, rfl, _⟩ := ty_open r5
    have hop : 0 ≤ op ∧ op ≤ 255 := by simpa [Lit.wf, IntKind.min, IntKind.max, IntKind.signed, IntKind.bits] using w0
    have r6' : Sl NoM w v6 l := r6
    have e6' := r6'.cells
    refine ⟨.agg #[.int .u8 op, .string s, .string ar, .int .i64 m, .bool b, .int .u8 a.op, .string a.name, .int .i64 a.n, akv, v6], .mk op s ar m b a l, ?_, tm_mk hop hs har hm r5 r6', ?_⟩
    · rw [e6'] at e6
      simp [Value.cells] at e0 e1 e2 e3 e4 e5 e6 ⊢
      simp [*]
    · rw [tmsz_eq]
      show 1 + s.size + ar.size + tsz a + (l.map tmsz).sum ≤ _
      have := bulk_one x0.1
      have := bulk_one x3.1
      omega
end
end Rw
