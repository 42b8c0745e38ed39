/- Part 2 of the proof: rules, plain laws and walks, merged out of smaller texts. -/
import Derived.Test.YtpoahmeacjggfaaQ1
namespace Go.Proofs.Ytpoahmeacjggfaa
open Go Rw Go.RowKit
set_option maxRecDepth 4000
theorem take_same {l k : List Ty} {i : Nat} (hi : i < l.length) (hk : i < k.length) (h : l.take i = k.take i) (e : l[i] = k[i]) : l.take (i + 1) = k.take (i + 1) := by
 rw [List.take_succ_eq_append_getElem hi, List.take_succ_eq_append_getElem hk, h, e]
theorem take_full {l k : List Ty} {i : Nat} (hi : l.length ≤ i) (hl : l.length = k.length) (h : l.take i = k.take i) : l = k := by
 rw [List.take_of_length_le hi, List.take_of_length_le (by omega)] at h; exact h
theorem kid_step {l : List Ty} {s : ByteArray} {i : Nat} {d : UInt8} (hi : i < l.length) (hd : s.data[i]? = some d) (h : ∀ (j : Nat) x d, j < i → l[j]? = some x → s.data[j]? = some d → shapeF x d = true) (e : shapeF l[i] d = true) :
  ∀ (j : Nat) x d, j < i + 1 → l[j]? = some x → s.data[j]? = some d → shapeF x d = true := by
 intro j x d' hj hx hd'
 by_cases he : j = i
 ·subst he
  rw [gE hi] at hx
  rw [hd] at hd'
  cases hx; cases hd'; exact e
 ·exact h j x d' (by omega) hx hd'
theorem alike_spec : ∀ (t : Ty) (s : Ty) (M : Nat → Prop) (w : World) (v u : Value), Rep.R M w v t → Rep.R M w u s → Low M w → Calls Try.prog 22 #[v, u] w (Ret fun r w' => r = .bool (@decide (t = s) (Classical.propDecidable _)) ∧ Ext w w') := by
 refine Ty.ind fun t ih => ?_
 intro s M w v u ht hs Lw
 have hE := Below.refl w.heap.size w
 have hB := lR w.heap.size
 obtain ⟨kv, rfl, op, nm, n64, hk⟩ := tO ht
 obtain ⟨kvs, rfl, ops, nms, n64s, hks⟩ := tO hs
 have hlt := hk.lt
 refine cN (n := 53) Try.func22 rfl rfl rfl ?_
 refine q0 ?_
 refine lC (o_box rfl rfl rfl ?_)
 intro b1 w1 hb_b1 ew1 h1
 replace h1 : Box _ b1 25 [.int .u8 t.op, .string t.name, .int .i64 t.n, kv] := h1
 replace h1 := h1.at (nO Lw hb_b1)
 replace hE := ew1.bl hE hB
 replace ht := Rep.Y ht ew1
 replace hk := hk.Y ew1
 replace hs := Rep.Y hs ew1
 replace hks := hks.Y ew1
 replace Lw := Lw.Y ew1
 replace hB := ew1.z hB
 refine lC (o_box rfl rfl rfl ?_)
 intro b2 w2 hb_b2 ew2 h2
 replace h2 : Box _ b2 25 [.int .u8 s.op, .string s.name, .int .i64 s.n, kvs] := h2
 replace h2 := h2.at (nO Lw hb_b2)
 replace hE := ew2.bl hE hB
 replace ht := Rep.Y ht ew2
 replace hk := hk.Y ew2
 replace hs := Rep.Y hs ew2
 replace hks := hks.Y ew2
 replace h1 := h1.Y ew2
 replace Lw := Lw.Y ew2
 replace hB := ew2.z hB
 refine lP 1 tK rfl (q1 (cS (q0 (lP 1 tK rfl ?_))))
 refine lC (oD tK (h1.cell 0 _ rfl) rfl rfl rfl rfl rfl ?_)
 refine lP 1 tK rfl ?_
 refine lC (oD tK (h2.cell 0 _ rfl) rfl rfl rfl rfl rfl ?_)
 refine lP 2 tK rfl ?_
 refine l_splitN 11 _ rfl (fun c1 => ?_) (fun c1 => ?_)
 ·refine lP 22 tK rfl (q1 (cI rfl (q0 (lP 1 tK rfl (q1 (cR (xR (x1_ rfl rfl ?_))))))))
  exact ⟨by rw [cl_false (fun e => by subst e; simp_all)], hE⟩
 refine lP 1 tK rfl ?_
 refine lC (oD tK (h1.cell 1 _ rfl) rfl rfl rfl rfl rfl ?_)
 refine lP 1 tK rfl ?_
 refine lC (oD tK (h2.cell 1 _ rfl) rfl rfl rfl rfl rfl ?_)
 refine lP 3 tK rfl ?_
 refine l_splitN 18 _ rfl (fun c2 => ?_) (fun c2 => ?_)
 ·refine lP 15 tK rfl (q1 (cI rfl (q0 (lP 1 tK rfl (q1 (cR (xR (x1_ rfl rfl ?_))))))))
  exact ⟨by rw [cl_false (fun e => by subst e; simp_all)], hE⟩
 refine lP 1 tK rfl ?_
 refine lC (oD tK (h1.cell 2 _ rfl) rfl rfl rfl rfl rfl ?_)
 refine lP 1 tK rfl ?_
 refine lC (oD tK (h2.cell 2 _ rfl) rfl rfl rfl rfl rfl ?_)
 refine lP 3 tK rfl ?_
 refine l_splitN 25 _ rfl (fun c3 => ?_) (fun c3 => ?_)
 ·refine lP 8 tK rfl (q1 (cI rfl (q0 (lP 1 tK rfl (q1 (cR (xR (x1_ rfl rfl ?_))))))))
  exact ⟨by rw [cl_false (fun e => by subst e; simp_all)], hE⟩
 refine lP 1 tK rfl ?_
 refine lC (oD tK (h1.cell 3 _ rfl) rfl rfl rfl rfl rfl ?_)
 refine lC (o_len tK hk rfl rfl rfl rfl rfl ?_)
 refine lP 1 tK rfl ?_
 refine lC (oD tK (h2.cell 3 _ rfl) rfl rfl rfl rfl rfl ?_)
 refine lC (o_len tK hks rfl rfl rfl rfl rfl ?_)
 refine lP 2 tK rfl (q1 ?_)
 refine c_ifN _ rfl (fun c4 => ?_) (fun c4 => ?_)
 ·refine q0 (lP 1 tK rfl (q1 (cR (xR (x1_ rfl rfl ?_)))))
  exact ⟨by rw [cl_false (fun e => by subst e; simp_all)], hE⟩
 refine cK (xS (cS (q0 (lP 1 tK rfl (q1 (cB ?_))))))
 have hop : t.op = s.op := by assumption
 have hnm : t.name = s.name := by assumption
 have hnn : t.n = s.n := by assumption
 have hll : t.kids.length = s.kids.length := by omega
 refine c_loop (X := Nat) (fun i => [(2, .pointer (some ⟨b1, 0, none⟩)), (3, .pointer (some ⟨b2, 0, none⟩)), (5, .int .i64 (i : Nat))]) (fun i w' => i ≤ t.kids.length ∧ t.kids.take i = s.kids.take i ∧ At M w' b1 0 [.int .u8 t.op, .string t.name, .int .i64 t.n, kv] ∧ At M w' b2 0 [.int .u8 s.op, .string s.name, .int .i64 s.n, kvs] ∧ Sl M w' kv t.kids ∧ Sl M w' kvs s.kids ∧ Low M w' ∧ Below w.heap.size w w' ∧ w.heap.size ≤ w'.heap.size) (fun i => t.kids.length - i) (0) (s3 rfl rfl rfl) ?_ ?_
 ·exact ⟨Nat.zero_le _, rfl, h1, h2, hk, hks, Lw, hE, hB⟩
 rintro i w3 ⟨hi, htake, h1, h2, hk, hks, Lw, hE, hB⟩
 refine cS (q0 (lP 2 tK rfl ?_))
 refine lC (oD tK (h1.cell 3 _ rfl) rfl rfl rfl rfl rfl ?_)
 refine lC (o_len tK hk rfl rfl rfl rfl rfl ?_)
 refine lP 1 tK rfl (q1 ?_)
 refine cP _ rfl (fun c5 => ?_) (fun c5 => ?_)
 ·refine cK (xS (cS (cB (cS ?_))))
  refine a_beg Ext rfl ?_
  intro w4 ew4
  replace hE := ew4.bl hE hB
  replace h1 := h1.Y ew4
  replace h2 := h2.Y ew4
  replace hk := hk.Y ew4
  replace hks := hks.Y ew4
  replace Lw := Lw.Y ew4
  replace hB := ew4.z hB
  have hS : Ext w4 w4 := ext_refl _
  have D_h1 := h1
  have D_h2 := h2
  have D_hk := hk
  have D_hks := hks
  refine a_p 0 tK rfl rfl rfl rfl (by kernel_rfl) i3 hS ?_
  refine a_ld 1 tK (fun _ hs => (D_h1.Y hs).cell 3 _ rfl) rfl rfl rfl rfl rfl rfl (by kernel_rfl) i3 hS ?_
  refine a_p 2 tK rfl rfl rfl rfl (by kernel_rfl) i3 hS ?_
  have hik : i < t.kids.length := by omega
  have hiks : i < s.kids.length := by omega
  refine a_ixS 3 tK D_hk (gE hik) rfl rfl rfl rfl rfl rfl rfl rfl rfl rfl (by kernel_rfl) i4 hS ?_
  intro ebx eox eux hyx hX
  obtain ⟨kvx, rfl, opx, nmx, n64x, hkx⟩ := tO hyx
  replace hX : At M w4 ebx eox [.int .u8 t.kids[i].op, .string t.kids[i].name, .int .i64 t.kids[i].n, kvx] := hX
  refine a_lds 4 tK (fun _ hs j v hv => (hX.Y hs).cell j v hv) rfl rfl rfl rfl rfl rfl rfl (by kernel_rfl) i3 hS ?_
  refine a_p 5 tK rfl rfl rfl rfl (by kernel_rfl) i3 hS ?_
  refine a_ld 6 tK (fun _ hs => (D_h2.Y hs).cell 3 _ rfl) rfl rfl rfl rfl rfl rfl (by kernel_rfl) i3 hS ?_
  refine a_p 7 tK rfl rfl rfl rfl (by kernel_rfl) i3 hS ?_
  refine a_ixS 8 tK D_hks (gE hiks) rfl rfl rfl rfl rfl rfl rfl rfl rfl rfl (by kernel_rfl) i4 hS ?_
  intro eby eoy euy hyy haty
  obtain ⟨kvy, rfl, opy, nmy, n64y, hky⟩ := tO hyy
  replace haty : At M w4 eby eoy [.int .u8 s.kids[i].op, .string s.kids[i].name, .int .i64 s.kids[i].n, kvy] := haty
  refine a_lds 9 tK (fun _ hs j v hv => (haty.Y hs).cell j v hv) rfl rfl rfl rfl rfl rfl rfl (by kernel_rfl) i3 hS ?_
  refine a_bar 10 rfl (by kernel_rfl) (by kernel_rfl) (oK fo22 rfl rfl rfl (ih _ (gM hik) _ _ _ _ _ hyx hyy Lw) ?_)
  rintro _ w5 ⟨rfl, ew5⟩
  replace hS := hS.then ew5
  replace hE := ew5.bl hE hB
  replace h1 := h1.Y ew5
  replace h2 := h2.Y ew5
  replace hk := hk.Y ew5
  replace hks := hks.Y ew5
  replace hyx := Rep.Y hyx ew5
  replace hkx := hkx.Y ew5
  replace hX := hX.Y ew5
  replace hyy := Rep.Y hyy ew5
  replace hky := hky.Y ew5
  replace haty := haty.Y ew5
  replace Lw := Lw.Y ew5
  replace hB := ew5.z hB
  refine a_p 11 tK rfl rfl rfl rfl (by kernel_rfl) i3 hS ?_
  refine a_end (by kernel_rfl) ?_
  refine xS ?_
  refine c_ifB _ rfl (fun c6 => ?_) (fun c6 => ?_)
  ·refine q0 (lP 1 tK rfl (q1 (cR (xB (xR (xR (xB (xR (x1_ rfl rfl ?_)))))))))
   exact ⟨by rw [cl_false (fun e => by subst e; exact absurd rfl (cl_not c6))], hE⟩
  refine cK (x_blk (xS (cG (lP 1 tK rfl ?_))))
  refine lC (o_ai rfl rfl rfl (by omega) rfl rfl ?_)
  refine lP 1 tK rfl (lN ?_)
  exact x_round (i + 1) (s3 rfl rfl rfl) ⟨by omega, take_same hik hiks htake (cl_of (by simpa using c6)), h1, h2, hk, hks, Lw, hE, hB⟩ (by omega)
 refine c_exit (xE (xE (x_blkE (xS (q0 (lP 1 tK rfl (q1 (cR (x1_ rfl rfl ?_)))))))))
 exact ⟨by rw [cl_true (Ty.ext' hop hnm hnn (take_full (by omega) hll htake))], hE⟩
theorem kids_spec (w : World) (op : Int) :
  Calls Try.prog 95 #[.int .u8 op] w (Ret fun r w' => (∃ b s, r = .tuple #[.string s, .bool b] ∧ kidsOf op = if b then some s else none) ∧ w = w') := by
 refine cN (n := 20) Try.func95 rfl rfl rfl ?_
 refine q0 (lP 2 tK rfl (q1 (cS (q0 (lP 1 tK rfl (q1 (cB (cS (q0 (lP 2 tK rfl (q1 ?_)))))))))))
 refine c_splitP 5 _ rfl (fun c1 => cI rfl ?_) (fun c1 => c_ifF rfl ?_)
 ·refine cK (xS (cI rfl (q0 (lP 2 tK rfl (q1 (cR (xB (xR (x_ret2 rfl rfl rfl ?_)))))))))
  exact ⟨⟨_, _, rfl, by simp [kidsOf, *]⟩, rfl⟩
 refine q0 (lP 2 tK rfl (q1 ?_))
 refine c_splitP 5 _ rfl (fun c2 => cI rfl ?_) (fun c2 => c_ifF rfl ?_)
 ·refine cK (xS (cI rfl (q0 (lP 2 tK rfl (q1 (cR (xB (xR (x_ret2 rfl rfl rfl ?_)))))))))
  exact ⟨⟨_, _, rfl, by simp [kidsOf, *]⟩, rfl⟩
 refine q0 (lP 2 tK rfl (q1 ?_))
 refine c_splitP 5 _ rfl (fun c3 => cI rfl ?_) (fun c3 => c_ifF rfl ?_)
 ·refine cK (xS (cI rfl (q0 (lP 2 tK rfl (q1 (cR (xB (xR (x_ret2 rfl rfl rfl ?_)))))))))
  exact ⟨⟨_, _, rfl, by simp [kidsOf, *]⟩, rfl⟩
 refine q0 (lP 2 tK rfl (q1 ?_))
 refine c_splitP 5 _ rfl (fun c4 => cI rfl ?_) (fun c4 => c_ifF rfl ?_)
 ·refine cK (xS (cI rfl (q0 (lP 2 tK rfl (q1 (cR (xB (xR (x_ret2 rfl rfl rfl ?_)))))))))
  exact ⟨⟨_, _, rfl, by simp [kidsOf, *]⟩, rfl⟩
 refine q0 (lP 2 tK rfl (q1 ?_))
 refine c_splitP 5 _ rfl (fun c5 => cI rfl ?_) (fun c5 => c_ifF rfl ?_)
 ·refine cK (xS (cI rfl (q0 (lP 2 tK rfl (q1 (cR (xB (xR (x_ret2 rfl rfl rfl ?_)))))))))
  exact ⟨⟨_, _, rfl, by simp [kidsOf, *]⟩, rfl⟩
 refine q0 (lP 2 tK rfl (q1 ?_))
 refine c_splitP 5 _ rfl (fun c6 => cI rfl ?_) (fun c6 => c_ifF rfl ?_)
 ·refine cK (xS (cI rfl (q0 (lP 2 tK rfl (q1 (cR (xB (xR (x_ret2 rfl rfl rfl ?_)))))))))
  exact ⟨⟨_, _, rfl, by simp [kidsOf, *]⟩, rfl⟩
 refine cG (lP 2 tK rfl (q1 ?_))
 refine c_splitP 5 _ rfl (fun c7 => cI rfl ?_) (fun c7 => c_ifF rfl ?_)
 ·refine q0 (lP 2 tK rfl (q1 (cR (xB (xR (x_ret2 rfl rfl rfl ?_))))))
  exact ⟨⟨_, _, rfl, by simp [kidsOf, *]⟩, rfl⟩
 refine q0 (lP 2 tK rfl (q1 ?_))
 refine cP _ rfl (fun c8 => ?_) (fun c8 => ?_)
 ·refine q0 (lP 2 tK rfl (q1 (cR (xB (xR (x_ret2 rfl rfl rfl ?_))))))
  exact ⟨⟨_, _, rfl, by simp [kidsOf, *]⟩, rfl⟩
 refine cS (q0 (lP 2 tK rfl (q1 ?_)))
 refine c_splitP 15 _ rfl (fun c9 => cI rfl ?_) (fun c9 => c_ifF rfl ?_)
 ·refine cK (xS (cI rfl (q0 (lP 2 tK rfl (q1 (cR (xB (xR (x_ret2 rfl rfl rfl ?_)))))))))
  exact ⟨⟨_, _, rfl, by simp [kidsOf, *]⟩, rfl⟩
 refine cG (lP 2 tK rfl (q1 ?_))
 refine c_splitP 15 _ rfl (fun c10 => cI rfl ?_) (fun c10 => c_ifF rfl ?_)
 ·refine q0 (lP 2 tK rfl (q1 (cR (xB (xR (x_ret2 rfl rfl rfl ?_))))))
  exact ⟨⟨_, _, rfl, by simp [kidsOf, *]⟩, rfl⟩
 refine q0 (lP 2 tK rfl (q1 ?_))
 refine cP _ rfl (fun c11 => ?_) (fun c11 => ?_)
 ·refine q0 (lP 2 tK rfl (q1 (cR (xB (xR (x_ret2 rfl rfl rfl ?_))))))
  exact ⟨⟨_, _, rfl, by simp [kidsOf, *]⟩, rfl⟩
 refine cK (x_blk (xS (q0 (lP 2 tK rfl (q1 (cR (x_ret2 rfl rfl rfl ?_)))))))
 exact ⟨⟨_, _, rfl, by simp [kidsOf, *]⟩, rfl⟩
theorem shape_spec : ∀ (t : Ty) (c : UInt8) (M : Nat → Prop) (w : World) (v : Value), Rep.R M w v t → Low M w → Calls Try.prog 65 #[v, .int .u8 c.toNat] w (Ret fun r w' => r = .bool (shapeF t c) ∧ Ext w w') := by
 refine Ty.ind fun t ih => ?_
 intro c M w v ht Lw
 have hE := Below.refl w.heap.size w
 have hB := lR w.heap.size
 obtain ⟨kv, rfl, op, nm, n64, hk⟩ := tO ht
 have hlt := hk.lt
 refine cN (n := 85) Try.func65 rfl rfl rfl ?_
 refine q0 ?_
 refine lC (o_box rfl rfl rfl ?_)
 intro b1 w1 hb_b1 ew1 h1
 replace h1 : Box _ b1 25 [.int .u8 t.op, .string t.name, .int .i64 t.n, kv] := h1
 replace h1 := h1.at (nO Lw hb_b1)
 replace hE := ew1.bl hE hB
 replace ht := Rep.Y ht ew1
 replace hk := hk.Y ew1
 replace Lw := Lw.Y ew1
 replace hB := ew1.z hB
 refine lP 1 tK rfl (q1 (q0 (lP 1 tK rfl ?_)))
 refine lC (oD tK (h1.cell 0 _ rfl) rfl rfl rfl rfl rfl ?_)
 refine lC (oK fo95 rfl rfl rfl (kids_spec _ t.op) ?_)
 rintro _ _ ⟨⟨bk, ks, rfl, hko⟩, rfl⟩
 refine lP 5 tK rfl (q1 (cS (q0 (lP 3 tK rfl ?_))))
 refine l_splitB 16 _ rfl (fun c1 => ?_) (fun c1 => ?_)
 ·refine lP 15 tK rfl (q1 (cI rfl (q0 (lP 1 tK rfl (q1 (cR (xR (x1_ rfl rfl ?_))))))))
  obtain rfl : bk = false := by simpa using c1
  replace hko : kidsOf t.op = none := hko
  exact ⟨by rw [shape_none hko], hE⟩
 refine lP 1 tK rfl ?_
 refine lC (oD tK (h1.cell 0 _ rfl) rfl rfl rfl rfl rfl ?_)
 refine lP 3 tK rfl ?_
 refine lC (o_bne tK rfl rfl rfl rfl rfl rfl ?_)
 refine lP 2 tK rfl ?_
 refine l_split 24 _ rfl (fun c2 => ?_) (fun c2 => ?_)
 ·refine lP 7 tK rfl (q1 (cI rfl (q0 (lP 1 tK rfl (q1 (cR (xR (x1_ rfl rfl ?_))))))))
  obtain rfl : bk = true := by simpa using c1
  replace hko : kidsOf t.op = some ks := hko
  exact ⟨by rw [shape_sort hko (by simpa using c2)], hE⟩
 refine lP 1 tK rfl ?_
 refine lC (oD tK (h1.cell 3 _ rfl) rfl rfl rfl rfl rfl ?_)
 refine lC (o_len tK hk rfl rfl rfl rfl rfl ?_)
 refine lP 4 tK rfl (q1 ?_)
 refine c_ifN _ rfl (fun c3 => ?_) (fun c3 => ?_)
 ·refine q0 (lP 1 tK rfl (q1 (cR (xR (x1_ rfl rfl ?_)))))
  obtain rfl : bk = true := by simpa using c1
  replace hko : kidsOf t.op = some ks := hko
  exact ⟨by rw [shape_len hko (by omega)], hE⟩
 refine cK (xS (cS (q0 (lP 1 tK rfl ?_))))
 refine lC (oD tK (h1.cell 0 _ rfl) rfl rfl rfl rfl rfl ?_)
 refine lP 2 tK rfl ?_
 refine lS 35 _ rfl (fun c4 => ?_) (fun c4 => ?_)
 ·refine lP 1 tK rfl ?_
  refine lC (oD tK (h1.cell 1 _ rfl) rfl rfl rfl rfl rfl ?_)
  refine lC (oK fo96 rfl rfl rfl (risWord_spec M _ t.name nm Lw) ?_)
  rintro _ w2 ⟨rfl, ew2⟩
  replace hE := ew2.bl hE hB
  replace ht := Rep.Y ht ew2
  replace hk := hk.Y ew2
  replace h1 := h1.Y ew2
  replace Lw := Lw.Y ew2
  replace hB := ew2.z hB
  refine lP 3 tK rfl ?_
  refine l_splitB 41 _ rfl (fun c5 => ?_) (fun c5 => ?_)
  ·refine lP 9 tK rfl (q1 (cI rfl (q0 (lP 1 tK rfl (q1 (cR (xR (x1_ rfl rfl ?_))))))))
   exact ⟨by rw [shape_head (by unfold headOk; simp_all <;> omega)], hE⟩
  refine lP 1 tK rfl ?_
  refine lC (oD tK (h1.cell 0 _ rfl) rfl rfl rfl rfl rfl ?_)
  refine lP 2 tK rfl ?_
  refine l_splitN 45 _ rfl (fun c6 => ?_) (fun c6 => ?_)
  ·refine lP 1 tK rfl ?_
   refine lC (oD tK (h1.cell 1 _ rfl) rfl rfl rfl rfl rfl ?_)
   refine lP 3 tK rfl (q1 ?_)
   refine c_ifN _ rfl (fun c7 => ?_) (fun c7 => ?_)
   ·refine q0 (lP 1 tK rfl (q1 (cR (xR (x1_ rfl rfl ?_)))))
    exact ⟨by rw [shape_head (by unfold headOk; simp_all <;> omega)], hE⟩
   refine cK (xS (cS (q0 (lP 1 tK rfl ?_))))
   refine lC (oD tK (h1.cell 2 _ rfl) rfl rfl rfl rfl rfl ?_)
   refine lP 2 tK rfl ?_
   refine lS 54 _ rfl (fun c8 => ?_) (fun c8 => ?_)
   ·refine lP 14 tK rfl (q1 (cI rfl (q0 (lP 1 tK rfl (q1 (cR (xR (x1_ rfl rfl ?_))))))))
    exact ⟨by rw [shape_head (by unfold headOk; simp_all <;> omega)], hE⟩
   refine lP 1 tK rfl ?_
   refine lC (oD tK (h1.cell 0 _ rfl) rfl rfl rfl rfl rfl ?_)
   refine lP 2 tK rfl ?_
   refine l_splitN 58 _ rfl (fun c9 => ?_) (fun c9 => ?_)
   ·refine lP 1 tK rfl ?_
    refine lC (oD tK (h1.cell 0 _ rfl) rfl rfl rfl rfl rfl ?_)
    refine lP 3 tK rfl ?_
    refine l_splitN 63 _ rfl (fun c10 => ?_) (fun c10 => ?_)
    ·refine lP 1 tK rfl ?_
     refine lC (oD tK (h1.cell 2 _ rfl) rfl rfl rfl rfl rfl ?_)
     refine lP 3 tK rfl (q1 ?_)
     refine c_ifN _ rfl (fun c11 => ?_) (fun c11 => ?_)
     ·refine q0 (lP 1 tK rfl (q1 (cR (xR (x1_ rfl rfl ?_)))))
      exact ⟨by rw [shape_head (by unfold headOk; simp_all <;> omega)], hE⟩
     refine cK (xS (cS (q0 (lP 1 tK rfl (q1 (cB ?_))))))
     obtain rfl : bk = true := by simpa using c1
     replace hko : kidsOf t.op = some ks := hko
     have hll : t.kids.length = ks.size := by omega
     have hsort : (decide (8 ≤ t.op) == decide ((c.toNat : Int) = 114)) = true := by simpa using c2
     have hhead : headOk t.op t.name t.n = true := by unfold headOk; simp_all <;> omega
     refine c_loop (X := Nat) (fun i => [(2, .pointer (some ⟨b1, 0, none⟩)), (5, .string ks), (7, .int .i64 (i : Nat))]) (fun i w' => i ≤ t.kids.length ∧ (∀ (j : Nat) x d, j < i → t.kids[j]? = some x → ks.data[j]? = some d → shapeF x d = true) ∧ At M w' b1 0 [.int .u8 t.op, .string t.name, .int .i64 t.n, kv] ∧ Sl M w' kv t.kids ∧ Low M w' ∧ Below w.heap.size w w' ∧ w.heap.size ≤ w'.heap.size) (fun i => t.kids.length - i) (0) (s3 rfl rfl rfl) ?_ ?_
     ·exact ⟨Nat.zero_le _, fun j x d hj => absurd hj (Nat.not_lt_zero _), h1, hk, Lw, hE, hB⟩
     rintro i w3 ⟨hi, hall, h1, hk, Lw, hE, hB⟩
     refine cS (q0 (lP 4 tK rfl (q1 ?_)))
     refine cP _ rfl (fun c12 => ?_) (fun c12 => ?_)
     ·refine cK (xS (cS (cB (cS ?_))))
      refine a_beg Ext rfl ?_
      intro w4 ew4
      replace hE := ew4.bl hE hB
      replace h1 := h1.Y ew4
      replace hk := hk.Y ew4
      replace Lw := Lw.Y ew4
      replace hB := ew4.z hB
      have hS : Ext w4 w4 := ext_refl _
      have D_h1 := h1
      have D_hk := hk
      refine a_p 0 tK rfl rfl rfl rfl (by kernel_rfl) i3 hS ?_
      refine a_ld 1 tK (fun _ hs => (D_h1.Y hs).cell 3 _ rfl) rfl rfl rfl rfl rfl rfl (by kernel_rfl) i3 hS ?_
      refine a_p 2 tK rfl rfl rfl rfl (by kernel_rfl) i3 hS ?_
      have hik : i < t.kids.length := by omega
      have hd : ks.data[i]? = some (ks.data[i]'(by have := size_data ks; omega)) := Array.getElem?_eq_getElem _
      generalize hcc : (ks.data[i]'(by have := size_data ks; omega)) = dd at hd
      refine a_ixS 3 tK D_hk (gE hik) rfl rfl rfl rfl rfl rfl rfl rfl rfl rfl (by kernel_rfl) i4 hS ?_
      intro ebx eox eux hyx hX
      obtain ⟨kvx, rfl, opx, nmx, n64x, hkx⟩ := tO hyx
      replace hX : At M w4 ebx eox [.int .u8 t.kids[i].op, .string t.kids[i].name, .int .i64 t.kids[i].n, kvx] := hX
      refine a_lds 4 tK (fun _ hs j v hv => (hX.Y hs).cell j v hv) rfl rfl rfl rfl rfl rfl rfl (by kernel_rfl) i3 hS ?_
      refine a_p 5 tK rfl rfl rfl rfl (by kernel_rfl) i3 hS ?_
      refine a_p 6 tK rfl rfl rfl rfl (by kernel_rfl) i3 hS ?_
      refine a_si 7 tK hd rfl rfl rfl rfl rfl rfl rfl rfl (by kernel_rfl) i3 hS ?_
      refine a_bar 8 rfl (by kernel_rfl) (by kernel_rfl) (oK fo65 rfl rfl rfl (ih _ (gM hik) dd _ _ _ hyx Lw) ?_)
      rintro _ w5 ⟨rfl, ew5⟩
      replace hS := hS.then ew5
      replace hE := ew5.bl hE hB
      replace h1 := h1.Y ew5
      replace hk := hk.Y ew5
      replace hyx := Rep.Y hyx ew5
      replace hkx := hkx.Y ew5
      replace hX := hX.Y ew5
      replace Lw := Lw.Y ew5
      replace hB := ew5.z hB
      refine a_p 9 tK rfl rfl rfl rfl (by kernel_rfl) i3 hS ?_
      refine a_end (by kernel_rfl) ?_
      refine xS ?_
      refine c_ifB _ rfl (fun c13 => ?_) (fun c13 => ?_)
      ·refine q0 (lP 1 tK rfl (q1 (cR (xB (xR (xR (xB (xR (x1_ rfl rfl ?_)))))))))
       exact ⟨by rw [shape_kid hko hik hd c13], hE⟩
      refine cK (x_blk (xS (cG (lP 1 tK rfl ?_))))
      refine lC (o_ai rfl rfl rfl (by omega) rfl rfl ?_)
      refine lP 1 tK rfl (lN ?_)
      exact x_round (i + 1) (s3 rfl rfl rfl) ⟨by omega, kid_step hik hd hall c13, h1, hk, Lw, hE, hB⟩ (by omega)
     refine c_exit (xE (xE (x_blkE (xS (q0 (lP 1 tK rfl (q1 (cR (x1_ rfl rfl ?_)))))))))
     exact ⟨by rw [shape_yes hko hll hsort hhead (fun j x d hx hd => hall j x d (by have := (List.getElem?_eq_some_iff.1 hx).1; omega) hx hd)], hE⟩
    refine lP 5 tK rfl (q1 (c_ifF rfl (cK (xS (cS (q0 (lP 1 tK rfl (q1 (cB ?_)))))))))
    obtain rfl : bk = true := by simpa using c1
    replace hko : kidsOf t.op = some ks := hko
    have hll : t.kids.length = ks.size := by omega
    have hsort : (decide (8 ≤ t.op) == decide ((c.toNat : Int) = 114)) = true := by simpa using c2
    have hhead : headOk t.op t.name t.n = true := by unfold headOk; simp_all <;> omega
    refine c_loop (X := Nat) (fun i => [(2, .pointer (some ⟨b1, 0, none⟩)), (5, .string ks), (7, .int .i64 (i : Nat))]) (fun i w' => i ≤ t.kids.length ∧ (∀ (j : Nat) x d, j < i → t.kids[j]? = some x → ks.data[j]? = some d → shapeF x d = true) ∧ At M w' b1 0 [.int .u8 t.op, .string t.name, .int .i64 t.n, kv] ∧ Sl M w' kv t.kids ∧ Low M w' ∧ Below w.heap.size w w' ∧ w.heap.size ≤ w'.heap.size) (fun i => t.kids.length - i) (0) (s3 rfl rfl rfl) ?_ ?_
    ·exact ⟨Nat.zero_le _, fun j x d hj => absurd hj (Nat.not_lt_zero _), h1, hk, Lw, hE, hB⟩
    rintro i w6 ⟨hi, hall, h1, hk, Lw, hE, hB⟩
    refine cS (q0 (lP 4 tK rfl (q1 ?_)))
    refine cP _ rfl (fun c14 => ?_) (fun c14 => ?_)
    ·refine cK (xS (cS (cB (cS ?_))))
     refine a_beg Ext rfl ?_
     intro w7 ew7
     replace hE := ew7.bl hE hB
     replace h1 := h1.Y ew7
     replace hk := hk.Y ew7
     replace Lw := Lw.Y ew7
     replace hB := ew7.z hB
     have hS : Ext w7 w7 := ext_refl _
     have D_h1 := h1
     have D_hk := hk
     refine a_p 0 tK rfl rfl rfl rfl (by kernel_rfl) i3 hS ?_
     refine a_ld 1 tK (fun _ hs => (D_h1.Y hs).cell 3 _ rfl) rfl rfl rfl rfl rfl rfl (by kernel_rfl) i3 hS ?_
     refine a_p 2 tK rfl rfl rfl rfl (by kernel_rfl) i3 hS ?_
     have hik : i < t.kids.length := by omega
     have hd : ks.data[i]? = some (ks.data[i]'(by have := size_data ks; omega)) := Array.getElem?_eq_getElem _
     generalize hcc : (ks.data[i]'(by have := size_data ks; omega)) = dd at hd
     refine a_ixS 3 tK D_hk (gE hik) rfl rfl rfl rfl rfl rfl rfl rfl rfl rfl (by kernel_rfl) i4 hS ?_
     intro ebx eox eux hyx hX
     obtain ⟨kvx, rfl, opx, nmx, n64x, hkx⟩ := tO hyx
     replace hX : At M w7 ebx eox [.int .u8 t.kids[i].op, .string t.kids[i].name, .int .i64 t.kids[i].n, kvx] := hX
     refine a_lds 4 tK (fun _ hs j v hv => (hX.Y hs).cell j v hv) rfl rfl rfl rfl rfl rfl rfl (by kernel_rfl) i3 hS ?_
     refine a_p 5 tK rfl rfl rfl rfl (by kernel_rfl) i3 hS ?_
     refine a_p 6 tK rfl rfl rfl rfl (by kernel_rfl) i3 hS ?_
     refine a_si 7 tK hd rfl rfl rfl rfl rfl rfl rfl rfl (by kernel_rfl) i3 hS ?_
     refine a_bar 8 rfl (by kernel_rfl) (by kernel_rfl) (oK fo65 rfl rfl rfl (ih _ (gM hik) dd _ _ _ hyx Lw) ?_)
     rintro _ w8 ⟨rfl, ew8⟩
     replace hS := hS.then ew8
     replace hE := ew8.bl hE hB
     replace h1 := h1.Y ew8
     replace hk := hk.Y ew8
     replace hyx := Rep.Y hyx ew8
     replace hkx := hkx.Y ew8
     replace hX := hX.Y ew8
     replace Lw := Lw.Y ew8
     replace hB := ew8.z hB
     refine a_p 9 tK rfl rfl rfl rfl (by kernel_rfl) i3 hS ?_
     refine a_end (by kernel_rfl) ?_
     refine xS ?_
     refine c_ifB _ rfl (fun c15 => ?_) (fun c15 => ?_)
     ·refine q0 (lP 1 tK rfl (q1 (cR (xB (xR (xR (xB (xR (x1_ rfl rfl ?_)))))))))
      exact ⟨by rw [shape_kid hko hik hd c15], hE⟩
     refine cK (x_blk (xS (cG (lP 1 tK rfl ?_))))
     refine lC (o_ai rfl rfl rfl (by omega) rfl rfl ?_)
     refine lP 1 tK rfl (lN ?_)
     exact x_round (i + 1) (s3 rfl rfl rfl) ⟨by omega, kid_step hik hd hall c15, h1, hk, Lw, hE, hB⟩ (by omega)
    refine c_exit (xE (xE (x_blkE (xS (q0 (lP 1 tK rfl (q1 (cR (x1_ rfl rfl ?_)))))))))
    exact ⟨by rw [shape_yes hko hll hsort hhead (fun j x d hx hd => hall j x d (by have := (List.getElem?_eq_some_iff.1 hx).1; omega) hx hd)], hE⟩
   refine lP 10 tK rfl (q1 (c_ifF rfl (cK (xS (cS (q0 (lP 1 tK rfl (q1 (cB ?_)))))))))
   obtain rfl : bk = true := by simpa using c1
   replace hko : kidsOf t.op = some ks := hko
   have hll : t.kids.length = ks.size := by omega
   have hsort : (decide (8 ≤ t.op) == decide ((c.toNat : Int) = 114)) = true := by simpa using c2
   have hhead : headOk t.op t.name t.n = true := by unfold headOk; simp_all <;> omega
   refine c_loop (X := Nat) (fun i => [(2, .pointer (some ⟨b1, 0, none⟩)), (5, .string ks), (7, .int .i64 (i : Nat))]) (fun i w' => i ≤ t.kids.length ∧ (∀ (j : Nat) x d, j < i → t.kids[j]? = some x → ks.data[j]? = some d → shapeF x d = true) ∧ At M w' b1 0 [.int .u8 t.op, .string t.name, .int .i64 t.n, kv] ∧ Sl M w' kv t.kids ∧ Low M w' ∧ Below w.heap.size w w' ∧ w.heap.size ≤ w'.heap.size) (fun i => t.kids.length - i) (0) (s3 rfl rfl rfl) ?_ ?_
   ·exact ⟨Nat.zero_le _, fun j x d hj => absurd hj (Nat.not_lt_zero _), h1, hk, Lw, hE, hB⟩
   rintro i w9 ⟨hi, hall, h1, hk, Lw, hE, hB⟩
   refine cS (q0 (lP 4 tK rfl (q1 ?_)))
   refine cP _ rfl (fun c16 => ?_) (fun c16 => ?_)
   ·refine cK (xS (cS (cB (cS ?_))))
    refine a_beg Ext rfl ?_
    intro w10 ew10
    replace hE := ew10.bl hE hB
    replace h1 := h1.Y ew10
    replace hk := hk.Y ew10
    replace Lw := Lw.Y ew10
    replace hB := ew10.z hB
    have hS : Ext w10 w10 := ext_refl _
    have D_h1 := h1
    have D_hk := hk
    refine a_p 0 tK rfl rfl rfl rfl (by kernel_rfl) i3 hS ?_
    refine a_ld 1 tK (fun _ hs => (D_h1.Y hs).cell 3 _ rfl) rfl rfl rfl rfl rfl rfl (by kernel_rfl) i3 hS ?_
    refine a_p 2 tK rfl rfl rfl rfl (by kernel_rfl) i3 hS ?_
    have hik : i < t.kids.length := by omega
    have hd : ks.data[i]? = some (ks.data[i]'(by have := size_data ks; omega)) := Array.getElem?_eq_getElem _
    generalize hcc : (ks.data[i]'(by have := size_data ks; omega)) = dd at hd
    refine a_ixS 3 tK D_hk (gE hik) rfl rfl rfl rfl rfl rfl rfl rfl rfl rfl (by kernel_rfl) i4 hS ?_
    intro ebx eox eux hyx hX
    obtain ⟨kvx, rfl, opx, nmx, n64x, hkx⟩ := tO hyx
    replace hX : At M w10 ebx eox [.int .u8 t.kids[i].op, .string t.kids[i].name, .int .i64 t.kids[i].n, kvx] := hX
    refine a_lds 4 tK (fun _ hs j v hv => (hX.Y hs).cell j v hv) rfl rfl rfl rfl rfl rfl rfl (by kernel_rfl) i3 hS ?_
    refine a_p 5 tK rfl rfl rfl rfl (by kernel_rfl) i3 hS ?_
    refine a_p 6 tK rfl rfl rfl rfl (by kernel_rfl) i3 hS ?_
    refine a_si 7 tK hd rfl rfl rfl rfl rfl rfl rfl rfl (by kernel_rfl) i3 hS ?_
    refine a_bar 8 rfl (by kernel_rfl) (by kernel_rfl) (oK fo65 rfl rfl rfl (ih _ (gM hik) dd _ _ _ hyx Lw) ?_)
    rintro _ w11 ⟨rfl, ew11⟩
    replace hS := hS.then ew11
    replace hE := ew11.bl hE hB
    replace h1 := h1.Y ew11
    replace hk := hk.Y ew11
    replace hyx := Rep.Y hyx ew11
    replace hkx := hkx.Y ew11
    replace hX := hX.Y ew11
    replace Lw := Lw.Y ew11
    replace hB := ew11.z hB
    refine a_p 9 tK rfl rfl rfl rfl (by kernel_rfl) i3 hS ?_
    refine a_end (by kernel_rfl) ?_
    refine xS ?_
    refine c_ifB _ rfl (fun c17 => ?_) (fun c17 => ?_)
    ·refine q0 (lP 1 tK rfl (q1 (cR (xB (xR (xR (xB (xR (x1_ rfl rfl ?_)))))))))
     exact ⟨by rw [shape_kid hko hik hd c17], hE⟩
    refine cK (x_blk (xS (cG (lP 1 tK rfl ?_))))
    refine lC (o_ai rfl rfl rfl (by omega) rfl rfl ?_)
    refine lP 1 tK rfl (lN ?_)
    exact x_round (i + 1) (s3 rfl rfl rfl) ⟨by omega, kid_step hik hd hall c17, h1, hk, Lw, hE, hB⟩ (by omega)
   refine c_exit (xE (xE (x_blkE (xS (q0 (lP 1 tK rfl (q1 (cR (x1_ rfl rfl ?_)))))))))
   exact ⟨by rw [shape_yes hko hll hsort hhead (fun j x d hx hd => hall j x d (by have := (List.getElem?_eq_some_iff.1 hx).1; omega) hx hd)], hE⟩
  refine lP 5 tK rfl (q1 (c_ifF rfl (cK (xS (cS (q0 (lP 1 tK rfl ?_)))))))
  refine lC (oD tK (h1.cell 2 _ rfl) rfl rfl rfl rfl rfl ?_)
  refine lP 2 tK rfl ?_
  refine lS 54 _ rfl (fun c18 => ?_) (fun c18 => ?_)
  ·refine lP 14 tK rfl (q1 (cI rfl (q0 (lP 1 tK rfl (q1 (cR (xR (x1_ rfl rfl ?_))))))))
   exact ⟨by rw [shape_head (by unfold headOk; simp_all <;> omega)], hE⟩
  refine lP 1 tK rfl ?_
  refine lC (oD tK (h1.cell 0 _ rfl) rfl rfl rfl rfl rfl ?_)
  refine lP 2 tK rfl ?_
  refine l_splitN 58 _ rfl (fun c19 => ?_) (fun c19 => ?_)
  ·refine lP 1 tK rfl ?_
   refine lC (oD tK (h1.cell 0 _ rfl) rfl rfl rfl rfl rfl ?_)
   refine lP 3 tK rfl ?_
   refine l_splitN 63 _ rfl (fun c20 => ?_) (fun c20 => ?_)
   ·refine lP 1 tK rfl ?_
    refine lC (oD tK (h1.cell 2 _ rfl) rfl rfl rfl rfl rfl ?_)
    refine lP 3 tK rfl (q1 ?_)
    refine c_ifN _ rfl (fun c21 => ?_) (fun c21 => ?_)
    ·refine q0 (lP 1 tK rfl (q1 (cR (xR (x1_ rfl rfl ?_)))))
     exact ⟨by rw [shape_head (by unfold headOk; simp_all <;> omega)], hE⟩
    refine cK (xS (cS (q0 (lP 1 tK rfl (q1 (cB ?_))))))
    obtain rfl : bk = true := by simpa using c1
    replace hko : kidsOf t.op = some ks := hko
    have hll : t.kids.length = ks.size := by omega
    have hsort : (decide (8 ≤ t.op) == decide ((c.toNat : Int) = 114)) = true := by simpa using c2
    have hhead : headOk t.op t.name t.n = true := by unfold headOk; simp_all <;> omega
    refine c_loop (X := Nat) (fun i => [(2, .pointer (some ⟨b1, 0, none⟩)), (5, .string ks), (7, .int .i64 (i : Nat))]) (fun i w' => i ≤ t.kids.length ∧ (∀ (j : Nat) x d, j < i → t.kids[j]? = some x → ks.data[j]? = some d → shapeF x d = true) ∧ At M w' b1 0 [.int .u8 t.op, .string t.name, .int .i64 t.n, kv] ∧ Sl M w' kv t.kids ∧ Low M w' ∧ Below w.heap.size w w' ∧ w.heap.size ≤ w'.heap.size) (fun i => t.kids.length - i) (0) (s3 rfl rfl rfl) ?_ ?_
    ·exact ⟨Nat.zero_le _, fun j x d hj => absurd hj (Nat.not_lt_zero _), h1, hk, Lw, hE, hB⟩
    rintro i w12 ⟨hi, hall, h1, hk, Lw, hE, hB⟩
    refine cS (q0 (lP 4 tK rfl (q1 ?_)))
    refine cP _ rfl (fun c22 => ?_) (fun c22 => ?_)
    ·refine cK (xS (cS (cB (cS ?_))))
     refine a_beg Ext rfl ?_
     intro w13 ew13
     replace hE := ew13.bl hE hB
     replace h1 := h1.Y ew13
     replace hk := hk.Y ew13
     replace Lw := Lw.Y ew13
     replace hB := ew13.z hB
     have hS : Ext w13 w13 := ext_refl _
     have D_h1 := h1
     have D_hk := hk
     refine a_p 0 tK rfl rfl rfl rfl (by kernel_rfl) i3 hS ?_
     refine a_ld 1 tK (fun _ hs => (D_h1.Y hs).cell 3 _ rfl) rfl rfl rfl rfl rfl rfl (by kernel_rfl) i3 hS ?_
     refine a_p 2 tK rfl rfl rfl rfl (by kernel_rfl) i3 hS ?_
     have hik : i < t.kids.length := by omega
     have hd : ks.data[i]? = some (ks.data[i]'(by have := size_data ks; omega)) := Array.getElem?_eq_getElem _
     generalize hcc : (ks.data[i]'(by have := size_data ks; omega)) = dd at hd
     refine a_ixS 3 tK D_hk (gE hik) rfl rfl rfl rfl rfl rfl rfl rfl rfl rfl (by kernel_rfl) i4 hS ?_
     intro ebx eox eux hyx hX
     obtain ⟨kvx, rfl, opx, nmx, n64x, hkx⟩ := tO hyx
     replace hX : At M w13 ebx eox [.int .u8 t.kids[i].op, .string t.kids[i].name, .int .i64 t.kids[i].n, kvx] := hX
     refine a_lds 4 tK (fun _ hs j v hv => (hX.Y hs).cell j v hv) rfl rfl rfl rfl rfl rfl rfl (by kernel_rfl) i3 hS ?_
     refine a_p 5 tK rfl rfl rfl rfl (by kernel_rfl) i3 hS ?_
     refine a_p 6 tK rfl rfl rfl rfl (by kernel_rfl) i3 hS ?_
     refine a_si 7 tK hd rfl rfl rfl rfl rfl rfl rfl rfl (by kernel_rfl) i3 hS ?_
     refine a_bar 8 rfl (by kernel_rfl) (by kernel_rfl) (oK fo65 rfl rfl rfl (ih _ (gM hik) dd _ _ _ hyx Lw) ?_)
     rintro _ w14 ⟨rfl, ew14⟩
     replace hS := hS.then ew14
     replace hE := ew14.bl hE hB
     replace h1 := h1.Y ew14
     replace hk := hk.Y ew14
     replace hyx := Rep.Y hyx ew14
     replace hkx := hkx.Y ew14
     replace hX := hX.Y ew14
     replace Lw := Lw.Y ew14
     replace hB := ew14.z hB
     refine a_p 9 tK rfl rfl rfl rfl (by kernel_rfl) i3 hS ?_
     refine a_end (by kernel_rfl) ?_
     refine xS ?_
     refine c_ifB _ rfl (fun c23 => ?_) (fun c23 => ?_)
     ·refine q0 (lP 1 tK rfl (q1 (cR (xB (xR (xR (xB (xR (x1_ rfl rfl ?_)))))))))
      exact ⟨by rw [shape_kid hko hik hd c23], hE⟩
     refine cK (x_blk (xS (cG (lP 1 tK rfl ?_))))
     refine lC (o_ai rfl rfl rfl (by omega) rfl rfl ?_)
     refine lP 1 tK rfl (lN ?_)
     exact x_round (i + 1) (s3 rfl rfl rfl) ⟨by omega, kid_step hik hd hall c23, h1, hk, Lw, hE, hB⟩ (by omega)
    refine c_exit (xE (xE (x_blkE (xS (q0 (lP 1 tK rfl (q1 (cR (x1_ rfl rfl ?_)))))))))
    exact ⟨by rw [shape_yes hko hll hsort hhead (fun j x d hx hd => hall j x d (by have := (List.getElem?_eq_some_iff.1 hx).1; omega) hx hd)], hE⟩
   refine lP 5 tK rfl (q1 (c_ifF rfl (cK (xS (cS (q0 (lP 1 tK rfl (q1 (cB ?_)))))))))
   obtain rfl : bk = true := by simpa using c1
   replace hko : kidsOf t.op = some ks := hko
   have hll : t.kids.length = ks.size := by omega
   have hsort : (decide (8 ≤ t.op) == decide ((c.toNat : Int) = 114)) = true := by simpa using c2
   have hhead : headOk t.op t.name t.n = true := by unfold headOk; simp_all <;> omega
   refine c_loop (X := Nat) (fun i => [(2, .pointer (some ⟨b1, 0, none⟩)), (5, .string ks), (7, .int .i64 (i : Nat))]) (fun i w' => i ≤ t.kids.length ∧ (∀ (j : Nat) x d, j < i → t.kids[j]? = some x → ks.data[j]? = some d → shapeF x d = true) ∧ At M w' b1 0 [.int .u8 t.op, .string t.name, .int .i64 t.n, kv] ∧ Sl M w' kv t.kids ∧ Low M w' ∧ Below w.heap.size w w' ∧ w.heap.size ≤ w'.heap.size) (fun i => t.kids.length - i) (0) (s3 rfl rfl rfl) ?_ ?_
   ·exact ⟨Nat.zero_le _, fun j x d hj => absurd hj (Nat.not_lt_zero _), h1, hk, Lw, hE, hB⟩
   rintro i w15 ⟨hi, hall, h1, hk, Lw, hE, hB⟩
   refine cS (q0 (lP 4 tK rfl (q1 ?_)))
   refine cP _ rfl (fun c24 => ?_) (fun c24 => ?_)
   ·refine cK (xS (cS (cB (cS ?_))))
    refine a_beg Ext rfl ?_
    intro w16 ew16
    replace hE := ew16.bl hE hB
    replace h1 := h1.Y ew16
    replace hk := hk.Y ew16
    replace Lw := Lw.Y ew16
    replace hB := ew16.z hB
    have hS : Ext w16 w16 := ext_refl _
    have D_h1 := h1
    have D_hk := hk
    refine a_p 0 tK rfl rfl rfl rfl (by kernel_rfl) i3 hS ?_
    refine a_ld 1 tK (fun _ hs => (D_h1.Y hs).cell 3 _ rfl) rfl rfl rfl rfl rfl rfl (by kernel_rfl) i3 hS ?_
    refine a_p 2 tK rfl rfl rfl rfl (by kernel_rfl) i3 hS ?_
    have hik : i < t.kids.length := by omega
    have hd : ks.data[i]? = some (ks.data[i]'(by have := size_data ks; omega)) := Array.getElem?_eq_getElem _
    generalize hcc : (ks.data[i]'(by have := size_data ks; omega)) = dd at hd
    refine a_ixS 3 tK D_hk (gE hik) rfl rfl rfl rfl rfl rfl rfl rfl rfl rfl (by kernel_rfl) i4 hS ?_
    intro ebx eox eux hyx hX
    obtain ⟨kvx, rfl, opx, nmx, n64x, hkx⟩ := tO hyx
    replace hX : At M w16 ebx eox [.int .u8 t.kids[i].op, .string t.kids[i].name, .int .i64 t.kids[i].n, kvx] := hX
    refine a_lds 4 tK (fun _ hs j v hv => (hX.Y hs).cell j v hv) rfl rfl rfl rfl rfl rfl rfl (by kernel_rfl) i3 hS ?_
    refine a_p 5 tK rfl rfl rfl rfl (by kernel_rfl) i3 hS ?_
    refine a_p 6 tK rfl rfl rfl rfl (by kernel_rfl) i3 hS ?_
    refine a_si 7 tK hd rfl rfl rfl rfl rfl rfl rfl rfl (by kernel_rfl) i3 hS ?_
    refine a_bar 8 rfl (by kernel_rfl) (by kernel_rfl) (oK fo65 rfl rfl rfl (ih _ (gM hik) dd _ _ _ hyx Lw) ?_)
    rintro _ w17 ⟨rfl, ew17⟩
    replace hS := hS.then ew17
    replace hE := ew17.bl hE hB
    replace h1 := h1.Y ew17
    replace hk := hk.Y ew17
    replace hyx := Rep.Y hyx ew17
    replace hkx := hkx.Y ew17
    replace hX := hX.Y ew17
    replace Lw := Lw.Y ew17
    replace hB := ew17.z hB
    refine a_p 9 tK rfl rfl rfl rfl (by kernel_rfl) i3 hS ?_
    refine a_end (by kernel_rfl) ?_
    refine xS ?_
    refine c_ifB _ rfl (fun c25 => ?_) (fun c25 => ?_)
    ·refine q0 (lP 1 tK rfl (q1 (cR (xB (xR (xR (xB (xR (x1_ rfl rfl ?_)))))))))
     exact ⟨by rw [shape_kid hko hik hd c25], hE⟩
    refine cK (x_blk (xS (cG (lP 1 tK rfl ?_))))
    refine lC (o_ai rfl rfl rfl (by omega) rfl rfl ?_)
    refine lP 1 tK rfl (lN ?_)
    exact x_round (i + 1) (s3 rfl rfl rfl) ⟨by omega, kid_step hik hd hall c25, h1, hk, Lw, hE, hB⟩ (by omega)
   refine c_exit (xE (xE (x_blkE (xS (q0 (lP 1 tK rfl (q1 (cR (x1_ rfl rfl ?_)))))))))
   exact ⟨by rw [shape_yes hko hll hsort hhead (fun j x d hx hd => hall j x d (by have := (List.getElem?_eq_some_iff.1 hx).1; omega) hx hd)], hE⟩
  refine lP 10 tK rfl (q1 (c_ifF rfl (cK (xS (cS (q0 (lP 1 tK rfl (q1 (cB ?_)))))))))
  obtain rfl : bk = true := by simpa using c1
  replace hko : kidsOf t.op = some ks := hko
  have hll : t.kids.length = ks.size := by omega
  have hsort : (decide (8 ≤ t.op) == decide ((c.toNat : Int) = 114)) = true := by simpa using c2
  have hhead : headOk t.op t.name t.n = true := by unfold headOk; simp_all <;> omega
  refine c_loop (X := Nat) (fun i => [(2, .pointer (some ⟨b1, 0, none⟩)), (5, .string ks), (7, .int .i64 (i : Nat))]) (fun i w' => i ≤ t.kids.length ∧ (∀ (j : Nat) x d, j < i → t.kids[j]? = some x → ks.data[j]? = some d → shapeF x d = true) ∧ At M w' b1 0 [.int .u8 t.op, .string t.name, .int .i64 t.n, kv] ∧ Sl M w' kv t.kids ∧ Low M w' ∧ Below w.heap.size w w' ∧ w.heap.size ≤ w'.heap.size) (fun i => t.kids.length - i) (0) (s3 rfl rfl rfl) ?_ ?_
  ·exact ⟨Nat.zero_le _, fun j x d hj => absurd hj (Nat.not_lt_zero _), h1, hk, Lw, hE, hB⟩
  rintro i w18 ⟨hi, hall, h1, hk, Lw, hE, hB⟩
  refine cS (q0 (lP 4 tK rfl (q1 ?_)))
  refine cP _ rfl (fun c26 => ?_) (fun c26 => ?_)
  ·refine cK (xS (cS (cB (cS ?_))))
   refine a_beg Ext rfl ?_
   intro w19 ew19
   replace hE := ew19.bl hE hB
   replace h1 := h1.Y ew19
   replace hk := hk.Y ew19
   replace Lw := Lw.Y ew19
   replace hB := ew19.z hB
   have hS : Ext w19 w19 := ext_refl _
   have D_h1 := h1
   have D_hk := hk
   refine a_p 0 tK rfl rfl rfl rfl (by kernel_rfl) i3 hS ?_
   refine a_ld 1 tK (fun _ hs => (D_h1.Y hs).cell 3 _ rfl) rfl rfl rfl rfl rfl rfl (by kernel_rfl) i3 hS ?_
   refine a_p 2 tK rfl rfl rfl rfl (by kernel_rfl) i3 hS ?_
   have hik : i < t.kids.length := by omega
   have hd : ks.data[i]? = some (ks.data[i]'(by have := size_data ks; omega)) := Array.getElem?_eq_getElem _
   generalize hcc : (ks.data[i]'(by have := size_data ks; omega)) = dd at hd
   refine a_ixS 3 tK D_hk (gE hik) rfl rfl rfl rfl rfl rfl rfl rfl rfl rfl (by kernel_rfl) i4 hS ?_
   intro ebx eox eux hyx hX
   obtain ⟨kvx, rfl, opx, nmx, n64x, hkx⟩ := tO hyx
   replace hX : At M w19 ebx eox [.int .u8 t.kids[i].op, .string t.kids[i].name, .int .i64 t.kids[i].n, kvx] := hX
   refine a_lds 4 tK (fun _ hs j v hv => (hX.Y hs).cell j v hv) rfl rfl rfl rfl rfl rfl rfl (by kernel_rfl) i3 hS ?_
   refine a_p 5 tK rfl rfl rfl rfl (by kernel_rfl) i3 hS ?_
   refine a_p 6 tK rfl rfl rfl rfl (by kernel_rfl) i3 hS ?_
   refine a_si 7 tK hd rfl rfl rfl rfl rfl rfl rfl rfl (by kernel_rfl) i3 hS ?_
   refine a_bar 8 rfl (by kernel_rfl) (by kernel_rfl) (oK fo65 rfl rfl rfl (ih _ (gM hik) dd _ _ _ hyx Lw) ?_)
   rintro _ w20 ⟨rfl, ew20⟩
   replace hS := hS.then ew20
   replace hE := ew20.bl hE hB
   replace h1 := h1.Y ew20
   replace hk := hk.Y ew20
   replace hyx := Rep.Y hyx ew20
   replace hkx := hkx.Y ew20
   replace hX := hX.Y ew20
   replace Lw := Lw.Y ew20
   replace hB := ew20.z hB
   refine a_p 9 tK rfl rfl rfl rfl (by kernel_rfl) i3 hS ?_
   refine a_end (by kernel_rfl) ?_
   refine xS ?_
   refine c_ifB _ rfl (fun c27 => ?_) (fun c27 => ?_)
   ·refine q0 (lP 1 tK rfl (q1 (cR (xB (xR (xR (xB (xR (x1_ rfl rfl ?_)))))))))
    exact ⟨by rw [shape_kid hko hik hd c27], hE⟩
   refine cK (x_blk (xS (cG (lP 1 tK rfl ?_))))
   refine lC (o_ai rfl rfl rfl (by omega) rfl rfl ?_)
   refine lP 1 tK rfl (lN ?_)
   exact x_round (i + 1) (s3 rfl rfl rfl) ⟨by omega, kid_step hik hd hall c27, h1, hk, Lw, hE, hB⟩ (by omega)
  refine c_exit (xE (xE (x_blkE (xS (q0 (lP 1 tK rfl (q1 (cR (x1_ rfl rfl ?_)))))))))
  exact ⟨by rw [shape_yes hko hll hsort hhead (fun j x d hx hd => hall j x d (by have := (List.getElem?_eq_some_iff.1 hx).1; omega) hx hd)], hE⟩
 refine lP 7 tK rfl ?_
 refine lC (oD tK (h1.cell 0 _ rfl) rfl rfl rfl rfl rfl ?_)
 refine lP 2 tK rfl ?_
 refine l_splitN 45 _ rfl (fun c28 => ?_) (fun c28 => ?_)
 ·refine lP 1 tK rfl ?_
  refine lC (oD tK (h1.cell 1 _ rfl) rfl rfl rfl rfl rfl ?_)
  refine lP 3 tK rfl (q1 ?_)
  refine c_ifN _ rfl (fun c29 => ?_) (fun c29 => ?_)
  ·refine q0 (lP 1 tK rfl (q1 (cR (xR (x1_ rfl rfl ?_)))))
   exact ⟨by rw [shape_head (by unfold headOk; simp_all <;> omega)], hE⟩
  refine cK (xS (cS (q0 (lP 1 tK rfl ?_))))
  refine lC (oD tK (h1.cell 2 _ rfl) rfl rfl rfl rfl rfl ?_)
  refine lP 2 tK rfl ?_
  refine lS 54 _ rfl (fun c30 => ?_) (fun c30 => ?_)
  ·refine lP 14 tK rfl (q1 (cI rfl (q0 (lP 1 tK rfl (q1 (cR (xR (x1_ rfl rfl ?_))))))))
   exact ⟨by rw [shape_head (by unfold headOk; simp_all <;> omega)], hE⟩
  refine lP 1 tK rfl ?_
  refine lC (oD tK (h1.cell 0 _ rfl) rfl rfl rfl rfl rfl ?_)
  refine lP 2 tK rfl ?_
  refine l_splitN 58 _ rfl (fun c31 => ?_) (fun c31 => ?_)
  ·refine lP 1 tK rfl ?_
   refine lC (oD tK (h1.cell 0 _ rfl) rfl rfl rfl rfl rfl ?_)
   refine lP 3 tK rfl ?_
   refine l_splitN 63 _ rfl (fun c32 => ?_) (fun c32 => ?_)
   ·refine lP 1 tK rfl ?_
    refine lC (oD tK (h1.cell 2 _ rfl) rfl rfl rfl rfl rfl ?_)
    refine lP 3 tK rfl (q1 ?_)
    refine c_ifN _ rfl (fun c33 => ?_) (fun c33 => ?_)
    ·refine q0 (lP 1 tK rfl (q1 (cR (xR (x1_ rfl rfl ?_)))))
     exact ⟨by rw [shape_head (by unfold headOk; simp_all <;> omega)], hE⟩
    refine cK (xS (cS (q0 (lP 1 tK rfl (q1 (cB ?_))))))
    obtain rfl : bk = true := by simpa using c1
    replace hko : kidsOf t.op = some ks := hko
    have hll : t.kids.length = ks.size := by omega
    have hsort : (decide (8 ≤ t.op) == decide ((c.toNat : Int) = 114)) = true := by simpa using c2
    have hhead : headOk t.op t.name t.n = true := by unfold headOk; simp_all <;> omega
    refine c_loop (X := Nat) (fun i => [(2, .pointer (some ⟨b1, 0, none⟩)), (5, .string ks), (7, .int .i64 (i : Nat))]) (fun i w' => i ≤ t.kids.length ∧ (∀ (j : Nat) x d, j < i → t.kids[j]? = some x → ks.data[j]? = some d → shapeF x d = true) ∧ At M w' b1 0 [.int .u8 t.op, .string t.name, .int .i64 t.n, kv] ∧ Sl M w' kv t.kids ∧ Low M w' ∧ Below w.heap.size w w' ∧ w.heap.size ≤ w'.heap.size) (fun i => t.kids.length - i) (0) (s3 rfl rfl rfl) ?_ ?_
    ·exact ⟨Nat.zero_le _, fun j x d hj => absurd hj (Nat.not_lt_zero _), h1, hk, Lw, hE, hB⟩
    rintro i w21 ⟨hi, hall, h1, hk, Lw, hE, hB⟩
    refine cS (q0 (lP 4 tK rfl (q1 ?_)))
    refine cP _ rfl (fun c34 => ?_) (fun c34 => ?_)
    ·refine cK (xS (cS (cB (cS ?_))))
     refine a_beg Ext rfl ?_
     intro w22 ew22
     replace hE := ew22.bl hE hB
     replace h1 := h1.Y ew22
     replace hk := hk.Y ew22
     replace Lw := Lw.Y ew22
     replace hB := ew22.z hB
     have hS : Ext w22 w22 := ext_refl _
     have D_h1 := h1
     have D_hk := hk
     refine a_p 0 tK rfl rfl rfl rfl (by kernel_rfl) i3 hS ?_
     refine a_ld 1 tK (fun _ hs => (D_h1.Y hs).cell 3 _ rfl) rfl rfl rfl rfl rfl rfl (by kernel_rfl) i3 hS ?_
     refine a_p 2 tK rfl rfl rfl rfl (by kernel_rfl) i3 hS ?_
     have hik : i < t.kids.length := by omega
     have hd : ks.data[i]? = some (ks.data[i]'(by have := size_data ks; omega)) := Array.getElem?_eq_getElem _
     generalize hcc : (ks.data[i]'(by have := size_data ks; omega)) = dd at hd
     refine a_ixS 3 tK D_hk (gE hik) rfl rfl rfl rfl rfl rfl rfl rfl rfl rfl (by kernel_rfl) i4 hS ?_
     intro ebx eox eux hyx hX
     obtain ⟨kvx, rfl, opx, nmx, n64x, hkx⟩ := tO hyx
     replace hX : At M w22 ebx eox [.int .u8 t.kids[i].op, .string t.kids[i].name, .int .i64 t.kids[i].n, kvx] := hX
     refine a_lds 4 tK (fun _ hs j v hv => (hX.Y hs).cell j v hv) rfl rfl rfl rfl rfl rfl rfl (by kernel_rfl) i3 hS ?_
     refine a_p 5 tK rfl rfl rfl rfl (by kernel_rfl) i3 hS ?_
     refine a_p 6 tK rfl rfl rfl rfl (by kernel_rfl) i3 hS ?_
     refine a_si 7 tK hd rfl rfl rfl rfl rfl rfl rfl rfl (by kernel_rfl) i3 hS ?_
     refine a_bar 8 rfl (by kernel_rfl) (by kernel_rfl) (oK fo65 rfl rfl rfl (ih _ (gM hik) dd _ _ _ hyx Lw) ?_)
     rintro _ w23 ⟨rfl, ew23⟩
     replace hS := hS.then ew23
     replace hE := ew23.bl hE hB
     replace h1 := h1.Y ew23
     replace hk := hk.Y ew23
     replace hyx := Rep.Y hyx ew23
     replace hkx := hkx.Y ew23
     replace hX := hX.Y ew23
     replace Lw := Lw.Y ew23
     replace hB := ew23.z hB
     refine a_p 9 tK rfl rfl rfl rfl (by kernel_rfl) i3 hS ?_
     refine a_end (by kernel_rfl) ?_
     refine xS ?_
     refine c_ifB _ rfl (fun c35 => ?_) (fun c35 => ?_)
     ·refine q0 (lP 1 tK rfl (q1 (cR (xB (xR (xR (xB (xR (x1_ rfl rfl ?_)))))))))
      exact ⟨by rw [shape_kid hko hik hd c35], hE⟩
     refine cK (x_blk (xS (cG (lP 1 tK rfl ?_))))
     refine lC (o_ai rfl rfl rfl (by omega) rfl rfl ?_)
     refine lP 1 tK rfl (lN ?_)
     exact x_round (i + 1) (s3 rfl rfl rfl) ⟨by omega, kid_step hik hd hall c35, h1, hk, Lw, hE, hB⟩ (by omega)
    refine c_exit (xE (xE (x_blkE (xS (q0 (lP 1 tK rfl (q1 (cR (x1_ rfl rfl ?_)))))))))
    exact ⟨by rw [shape_yes hko hll hsort hhead (fun j x d hx hd => hall j x d (by have := (List.getElem?_eq_some_iff.1 hx).1; omega) hx hd)], hE⟩
   refine lP 5 tK rfl (q1 (c_ifF rfl (cK (xS (cS (q0 (lP 1 tK rfl (q1 (cB ?_)))))))))
   obtain rfl : bk = true := by simpa using c1
   replace hko : kidsOf t.op = some ks := hko
   have hll : t.kids.length = ks.size := by omega
   have hsort : (decide (8 ≤ t.op) == decide ((c.toNat : Int) = 114)) = true := by simpa using c2
   have hhead : headOk t.op t.name t.n = true := by unfold headOk; simp_all <;> omega
   refine c_loop (X := Nat) (fun i => [(2, .pointer (some ⟨b1, 0, none⟩)), (5, .string ks), (7, .int .i64 (i : Nat))]) (fun i w' => i ≤ t.kids.length ∧ (∀ (j : Nat) x d, j < i → t.kids[j]? = some x → ks.data[j]? = some d → shapeF x d = true) ∧ At M w' b1 0 [.int .u8 t.op, .string t.name, .int .i64 t.n, kv] ∧ Sl M w' kv t.kids ∧ Low M w' ∧ Below w.heap.size w w' ∧ w.heap.size ≤ w'.heap.size) (fun i => t.kids.length - i) (0) (s3 rfl rfl rfl) ?_ ?_
   ·exact ⟨Nat.zero_le _, fun j x d hj => absurd hj (Nat.not_lt_zero _), h1, hk, Lw, hE, hB⟩
   rintro i w24 ⟨hi, hall, h1, hk, Lw, hE, hB⟩
   refine cS (q0 (lP 4 tK rfl (q1 ?_)))
   refine cP _ rfl (fun c36 => ?_) (fun c36 => ?_)
   ·refine cK (xS (cS (cB (cS ?_))))
    refine a_beg Ext rfl ?_
    intro w25 ew25
    replace hE := ew25.bl hE hB
    replace h1 := h1.Y ew25
    replace hk := hk.Y ew25
    replace Lw := Lw.Y ew25
    replace hB := ew25.z hB
    have hS : Ext w25 w25 := ext_refl _
    have D_h1 := h1
    have D_hk := hk
    refine a_p 0 tK rfl rfl rfl rfl (by kernel_rfl) i3 hS ?_
    refine a_ld 1 tK (fun _ hs => (D_h1.Y hs).cell 3 _ rfl) rfl rfl rfl rfl rfl rfl (by kernel_rfl) i3 hS ?_
    refine a_p 2 tK rfl rfl rfl rfl (by kernel_rfl) i3 hS ?_
    have hik : i < t.kids.length := by omega
    have hd : ks.data[i]? = some (ks.data[i]'(by have := size_data ks; omega)) := Array.getElem?_eq_getElem _
    generalize hcc : (ks.data[i]'(by have := size_data ks; omega)) = dd at hd
    refine a_ixS 3 tK D_hk (gE hik) rfl rfl rfl rfl rfl rfl rfl rfl rfl rfl (by kernel_rfl) i4 hS ?_
    intro ebx eox eux hyx hX
    obtain ⟨kvx, rfl, opx, nmx, n64x, hkx⟩ := tO hyx
    replace hX : At M w25 ebx eox [.int .u8 t.kids[i].op, .string t.kids[i].name, .int .i64 t.kids[i].n, kvx] := hX
    refine a_lds 4 tK (fun _ hs j v hv => (hX.Y hs).cell j v hv) rfl rfl rfl rfl rfl rfl rfl (by kernel_rfl) i3 hS ?_
    refine a_p 5 tK rfl rfl rfl rfl (by kernel_rfl) i3 hS ?_
    refine a_p 6 tK rfl rfl rfl rfl (by kernel_rfl) i3 hS ?_
    refine a_si 7 tK hd rfl rfl rfl rfl rfl rfl rfl rfl (by kernel_rfl) i3 hS ?_
    refine a_bar 8 rfl (by kernel_rfl) (by kernel_rfl) (oK fo65 rfl rfl rfl (ih _ (gM hik) dd _ _ _ hyx Lw) ?_)
    rintro _ w26 ⟨rfl, ew26⟩
    replace hS := hS.then ew26
    replace hE := ew26.bl hE hB
    replace h1 := h1.Y ew26
    replace hk := hk.Y ew26
    replace hyx := Rep.Y hyx ew26
    replace hkx := hkx.Y ew26
    replace hX := hX.Y ew26
    replace Lw := Lw.Y ew26
    replace hB := ew26.z hB
    refine a_p 9 tK rfl rfl rfl rfl (by kernel_rfl) i3 hS ?_
    refine a_end (by kernel_rfl) ?_
    refine xS ?_
    refine c_ifB _ rfl (fun c37 => ?_) (fun c37 => ?_)
    ·refine q0 (lP 1 tK rfl (q1 (cR (xB (xR (xR (xB (xR (x1_ rfl rfl ?_)))))))))
     exact ⟨by rw [shape_kid hko hik hd c37], hE⟩
    refine cK (x_blk (xS (cG (lP 1 tK rfl ?_))))
    refine lC (o_ai rfl rfl rfl (by omega) rfl rfl ?_)
    refine lP 1 tK rfl (lN ?_)
    exact x_round (i + 1) (s3 rfl rfl rfl) ⟨by omega, kid_step hik hd hall c37, h1, hk, Lw, hE, hB⟩ (by omega)
   refine c_exit (xE (xE (x_blkE (xS (q0 (lP 1 tK rfl (q1 (cR (x1_ rfl rfl ?_)))))))))
   exact ⟨by rw [shape_yes hko hll hsort hhead (fun j x d hx hd => hall j x d (by have := (List.getElem?_eq_some_iff.1 hx).1; omega) hx hd)], hE⟩
  refine lP 10 tK rfl (q1 (c_ifF rfl (cK (xS (cS (q0 (lP 1 tK rfl (q1 (cB ?_)))))))))
  obtain rfl : bk = true := by simpa using c1
  replace hko : kidsOf t.op = some ks := hko
  have hll : t.kids.length = ks.size := by omega
  have hsort : (decide (8 ≤ t.op) == decide ((c.toNat : Int) = 114)) = true := by simpa using c2
  have hhead : headOk t.op t.name t.n = true := by unfold headOk; simp_all <;> omega
  refine c_loop (X := Nat) (fun i => [(2, .pointer (some ⟨b1, 0, none⟩)), (5, .string ks), (7, .int .i64 (i : Nat))]) (fun i w' => i ≤ t.kids.length ∧ (∀ (j : Nat) x d, j < i → t.kids[j]? = some x → ks.data[j]? = some d → shapeF x d = true) ∧ At M w' b1 0 [.int .u8 t.op, .string t.name, .int .i64 t.n, kv] ∧ Sl M w' kv t.kids ∧ Low M w' ∧ Below w.heap.size w w' ∧ w.heap.size ≤ w'.heap.size) (fun i => t.kids.length - i) (0) (s3 rfl rfl rfl) ?_ ?_
  ·exact ⟨Nat.zero_le _, fun j x d hj => absurd hj (Nat.not_lt_zero _), h1, hk, Lw, hE, hB⟩
  rintro i w27 ⟨hi, hall, h1, hk, Lw, hE, hB⟩
  refine cS (q0 (lP 4 tK rfl (q1 ?_)))
  refine cP _ rfl (fun c38 => ?_) (fun c38 => ?_)
  ·refine cK (xS (cS (cB (cS ?_))))
   refine a_beg Ext rfl ?_
   intro w28 ew28
   replace hE := ew28.bl hE hB
   replace h1 := h1.Y ew28
   replace hk := hk.Y ew28
   replace Lw := Lw.Y ew28
   replace hB := ew28.z hB
   have hS : Ext w28 w28 := ext_refl _
   have D_h1 := h1
   have D_hk := hk
   refine a_p 0 tK rfl rfl rfl rfl (by kernel_rfl) i3 hS ?_
   refine a_ld 1 tK (fun _ hs => (D_h1.Y hs).cell 3 _ rfl) rfl rfl rfl rfl rfl rfl (by kernel_rfl) i3 hS ?_
   refine a_p 2 tK rfl rfl rfl rfl (by kernel_rfl) i3 hS ?_
   have hik : i < t.kids.length := by omega
   have hd : ks.data[i]? = some (ks.data[i]'(by have := size_data ks; omega)) := Array.getElem?_eq_getElem _
   generalize hcc : (ks.data[i]'(by have := size_data ks; omega)) = dd at hd
   refine a_ixS 3 tK D_hk (gE hik) rfl rfl rfl rfl rfl rfl rfl rfl rfl rfl (by kernel_rfl) i4 hS ?_
   intro ebx eox eux hyx hX
   obtain ⟨kvx, rfl, opx, nmx, n64x, hkx⟩ := tO hyx
   replace hX : At M w28 ebx eox [.int .u8 t.kids[i].op, .string t.kids[i].name, .int .i64 t.kids[i].n, kvx] := hX
   refine a_lds 4 tK (fun _ hs j v hv => (hX.Y hs).cell j v hv) rfl rfl rfl rfl rfl rfl rfl (by kernel_rfl) i3 hS ?_
   refine a_p 5 tK rfl rfl rfl rfl (by kernel_rfl) i3 hS ?_
   refine a_p 6 tK rfl rfl rfl rfl (by kernel_rfl) i3 hS ?_
   refine a_si 7 tK hd rfl rfl rfl rfl rfl rfl rfl rfl (by kernel_rfl) i3 hS ?_
   refine a_bar 8 rfl (by kernel_rfl) (by kernel_rfl) (oK fo65 rfl rfl rfl (ih _ (gM hik) dd _ _ _ hyx Lw) ?_)
   rintro _ w29 ⟨rfl, ew29⟩
   replace hS := hS.then ew29
   replace hE := ew29.bl hE hB
   replace h1 := h1.Y ew29
   replace hk := hk.Y ew29
   replace hyx := Rep.Y hyx ew29
   replace hkx := hkx.Y ew29
   replace hX := hX.Y ew29
   replace Lw := Lw.Y ew29
   replace hB := ew29.z hB
   refine a_p 9 tK rfl rfl rfl rfl (by kernel_rfl) i3 hS ?_
   refine a_end (by kernel_rfl) ?_
   refine xS ?_
   refine c_ifB _ rfl (fun c39 => ?_) (fun c39 => ?_)
   ·refine q0 (lP 1 tK rfl (q1 (cR (xB (xR (xR (xB (xR (x1_ rfl rfl ?_)))))))))
    exact ⟨by rw [shape_kid hko hik hd c39], hE⟩
   refine cK (x_blk (xS (cG (lP 1 tK rfl ?_))))
   refine lC (o_ai rfl rfl rfl (by omega) rfl rfl ?_)
   refine lP 1 tK rfl (lN ?_)
   exact x_round (i + 1) (s3 rfl rfl rfl) ⟨by omega, kid_step hik hd hall c39, h1, hk, Lw, hE, hB⟩ (by omega)
  refine c_exit (xE (xE (x_blkE (xS (q0 (lP 1 tK rfl (q1 (cR (x1_ rfl rfl ?_)))))))))
  exact ⟨by rw [shape_yes hko hll hsort hhead (fun j x d hx hd => hall j x d (by have := (List.getElem?_eq_some_iff.1 hx).1; omega) hx hd)], hE⟩
 refine lP 5 tK rfl (q1 (c_ifF rfl (cK (xS (cS (q0 (lP 1 tK rfl ?_)))))))
 refine lC (oD tK (h1.cell 2 _ rfl) rfl rfl rfl rfl rfl ?_)
 refine lP 2 tK rfl ?_
 refine lS 54 _ rfl (fun c40 => ?_) (fun c40 => ?_)
 ·refine lP 14 tK rfl (q1 (cI rfl (q0 (lP 1 tK rfl (q1 (cR (xR (x1_ rfl rfl ?_))))))))
  exact ⟨by rw [shape_head (by unfold headOk; simp_all <;> omega)], hE⟩
 refine lP 1 tK rfl ?_
 refine lC (oD tK (h1.cell 0 _ rfl) rfl rfl rfl rfl rfl ?_)
 refine lP 2 tK rfl ?_
 refine l_splitN 58 _ rfl (fun c41 => ?_) (fun c41 => ?_)
 ·refine lP 1 tK rfl ?_
  refine lC (oD tK (h1.cell 0 _ rfl) rfl rfl rfl rfl rfl ?_)
  refine lP 3 tK rfl ?_
  refine l_splitN 63 _ rfl (fun c42 => ?_) (fun c42 => ?_)
  ·refine lP 1 tK rfl ?_
   refine lC (oD tK (h1.cell 2 _ rfl) rfl rfl rfl rfl rfl ?_)
   refine lP 3 tK rfl (q1 ?_)
   refine c_ifN _ rfl (fun c43 => ?_) (fun c43 => ?_)
   ·refine q0 (lP 1 tK rfl (q1 (cR (xR (x1_ rfl rfl ?_)))))
    exact ⟨by rw [shape_head (by unfold headOk; simp_all <;> omega)], hE⟩
   refine cK (xS (cS (q0 (lP 1 tK rfl (q1 (cB ?_))))))
   obtain rfl : bk = true := by simpa using c1
   replace hko : kidsOf t.op = some ks := hko
   have hll : t.kids.length = ks.size := by omega
   have hsort : (decide (8 ≤ t.op) == decide ((c.toNat : Int) = 114)) = true := by simpa using c2
   have hhead : headOk t.op t.name t.n = true := by unfold headOk; simp_all <;> omega
   refine c_loop (X := Nat) (fun i => [(2, .pointer (some ⟨b1, 0, none⟩)), (5, .string ks), (7, .int .i64 (i : Nat))]) (fun i w' => i ≤ t.kids.length ∧ (∀ (j : Nat) x d, j < i → t.kids[j]? = some x → ks.data[j]? = some d → shapeF x d = true) ∧ At M w' b1 0 [.int .u8 t.op, .string t.name, .int .i64 t.n, kv] ∧ Sl M w' kv t.kids ∧ Low M w' ∧ Below w.heap.size w w' ∧ w.heap.size ≤ w'.heap.size) (fun i => t.kids.length - i) (0) (s3 rfl rfl rfl) ?_ ?_
   ·exact ⟨Nat.zero_le _, fun j x d hj => absurd hj (Nat.not_lt_zero _), h1, hk, Lw, hE, hB⟩
   rintro i w30 ⟨hi, hall, h1, hk, Lw, hE, hB⟩
   refine cS (q0 (lP 4 tK rfl (q1 ?_)))
   refine cP _ rfl (fun c44 => ?_) (fun c44 => ?_)
   ·refine cK (xS (cS (cB (cS ?_))))
    refine a_beg Ext rfl ?_
    intro w31 ew31
    replace hE := ew31.bl hE hB
    replace h1 := h1.Y ew31
    replace hk := hk.Y ew31
    replace Lw := Lw.Y ew31
    replace hB := ew31.z hB
    have hS : Ext w31 w31 := ext_refl _
    have D_h1 := h1
    have D_hk := hk
    refine a_p 0 tK rfl rfl rfl rfl (by kernel_rfl) i3 hS ?_
    refine a_ld 1 tK (fun _ hs => (D_h1.Y hs).cell 3 _ rfl) rfl rfl rfl rfl rfl rfl (by kernel_rfl) i3 hS ?_
    refine a_p 2 tK rfl rfl rfl rfl (by kernel_rfl) i3 hS ?_
    have hik : i < t.kids.length := by omega
    have hd : ks.data[i]? = some (ks.data[i]'(by have := size_data ks; omega)) := Array.getElem?_eq_getElem _
    generalize hcc : (ks.data[i]'(by have := size_data ks; omega)) = dd at hd
    refine a_ixS 3 tK D_hk (gE hik) rfl rfl rfl rfl rfl rfl rfl rfl rfl rfl (by kernel_rfl) i4 hS ?_
    intro ebx eox eux hyx hX
    obtain ⟨kvx, rfl, opx, nmx, n64x, hkx⟩ := tO hyx
    replace hX : At M w31 ebx eox [.int .u8 t.kids[i].op, .string t.kids[i].name, .int .i64 t.kids[i].n, kvx] := hX
    refine a_lds 4 tK (fun _ hs j v hv => (hX.Y hs).cell j v hv) rfl rfl rfl rfl rfl rfl rfl (by kernel_rfl) i3 hS ?_
    refine a_p 5 tK rfl rfl rfl rfl (by kernel_rfl) i3 hS ?_
    refine a_p 6 tK rfl rfl rfl rfl (by kernel_rfl) i3 hS ?_
    refine a_si 7 tK hd rfl rfl rfl rfl rfl rfl rfl rfl (by kernel_rfl) i3 hS ?_
    refine a_bar 8 rfl (by kernel_rfl) (by kernel_rfl) (oK fo65 rfl rfl rfl (ih _ (gM hik) dd _ _ _ hyx Lw) ?_)
    rintro _ w32 ⟨rfl, ew32⟩
    replace hS := hS.then ew32
    replace hE := ew32.bl hE hB
    replace h1 := h1.Y ew32
    replace hk := hk.Y ew32
    replace hyx := Rep.Y hyx ew32
    replace hkx := hkx.Y ew32
    replace hX := hX.Y ew32
    replace Lw := Lw.Y ew32
    replace hB := ew32.z hB
    refine a_p 9 tK rfl rfl rfl rfl (by kernel_rfl) i3 hS ?_
    refine a_end (by kernel_rfl) ?_
    refine xS ?_
    refine c_ifB _ rfl (fun c45 => ?_) (fun c45 => ?_)
    ·refine q0 (lP 1 tK rfl (q1 (cR (xB (xR (xR (xB (xR (x1_ rfl rfl ?_)))))))))
     exact ⟨by rw [shape_kid hko hik hd c45], hE⟩
    refine cK (x_blk (xS (cG (lP 1 tK rfl ?_))))
    refine lC (o_ai rfl rfl rfl (by omega) rfl rfl ?_)
    refine lP 1 tK rfl (lN ?_)
    exact x_round (i + 1) (s3 rfl rfl rfl) ⟨by omega, kid_step hik hd hall c45, h1, hk, Lw, hE, hB⟩ (by omega)
   refine c_exit (xE (xE (x_blkE (xS (q0 (lP 1 tK rfl (q1 (cR (x1_ rfl rfl ?_)))))))))
   exact ⟨by rw [shape_yes hko hll hsort hhead (fun j x d hx hd => hall j x d (by have := (List.getElem?_eq_some_iff.1 hx).1; omega) hx hd)], hE⟩
  refine lP 5 tK rfl (q1 (c_ifF rfl (cK (xS (cS (q0 (lP 1 tK rfl (q1 (cB ?_)))))))))
  obtain rfl : bk = true := by simpa using c1
  replace hko : kidsOf t.op = some ks := hko
  have hll : t.kids.length = ks.size := by omega
  have hsort : (decide (8 ≤ t.op) == decide ((c.toNat : Int) = 114)) = true := by simpa using c2
  have hhead : headOk t.op t.name t.n = true := by unfold headOk; simp_all <;> omega
  refine c_loop (X := Nat) (fun i => [(2, .pointer (some ⟨b1, 0, none⟩)), (5, .string ks), (7, .int .i64 (i : Nat))]) (fun i w' => i ≤ t.kids.length ∧ (∀ (j : Nat) x d, j < i → t.kids[j]? = some x → ks.data[j]? = some d → shapeF x d = true) ∧ At M w' b1 0 [.int .u8 t.op, .string t.name, .int .i64 t.n, kv] ∧ Sl M w' kv t.kids ∧ Low M w' ∧ Below w.heap.size w w' ∧ w.heap.size ≤ w'.heap.size) (fun i => t.kids.length - i) (0) (s3 rfl rfl rfl) ?_ ?_
  ·exact ⟨Nat.zero_le _, fun j x d hj => absurd hj (Nat.not_lt_zero _), h1, hk, Lw, hE, hB⟩
  rintro i w33 ⟨hi, hall, h1, hk, Lw, hE, hB⟩
  refine cS (q0 (lP 4 tK rfl (q1 ?_)))
  refine cP _ rfl (fun c46 => ?_) (fun c46 => ?_)
  ·refine cK (xS (cS (cB (cS ?_))))
   refine a_beg Ext rfl ?_
   intro w34 ew34
   replace hE := ew34.bl hE hB
   replace h1 := h1.Y ew34
   replace hk := hk.Y ew34
   replace Lw := Lw.Y ew34
   replace hB := ew34.z hB
   have hS : Ext w34 w34 := ext_refl _
   have D_h1 := h1
   have D_hk := hk
   refine a_p 0 tK rfl rfl rfl rfl (by kernel_rfl) i3 hS ?_
   refine a_ld 1 tK (fun _ hs => (D_h1.Y hs).cell 3 _ rfl) rfl rfl rfl rfl rfl rfl (by kernel_rfl) i3 hS ?_
   refine a_p 2 tK rfl rfl rfl rfl (by kernel_rfl) i3 hS ?_
   have hik : i < t.kids.length := by omega
   have hd : ks.data[i]? = some (ks.data[i]'(by have := size_data ks; omega)) := Array.getElem?_eq_getElem _
   generalize hcc : (ks.data[i]'(by have := size_data ks; omega)) = dd at hd
   refine a_ixS 3 tK D_hk (gE hik) rfl rfl rfl rfl rfl rfl rfl rfl rfl rfl (by kernel_rfl) i4 hS ?_
   intro ebx eox eux hyx hX
   obtain ⟨kvx, rfl, opx, nmx, n64x, hkx⟩ := tO hyx
   replace hX : At M w34 ebx eox [.int .u8 t.kids[i].op, .string t.kids[i].name, .int .i64 t.kids[i].n, kvx] := hX
   refine a_lds 4 tK (fun _ hs j v hv => (hX.Y hs).cell j v hv) rfl rfl rfl rfl rfl rfl rfl (by kernel_rfl) i3 hS ?_
   refine a_p 5 tK rfl rfl rfl rfl (by kernel_rfl) i3 hS ?_
   refine a_p 6 tK rfl rfl rfl rfl (by kernel_rfl) i3 hS ?_
   refine a_si 7 tK hd rfl rfl rfl rfl rfl rfl rfl rfl (by kernel_rfl) i3 hS ?_
   refine a_bar 8 rfl (by kernel_rfl) (by kernel_rfl) (oK fo65 rfl rfl rfl (ih _ (gM hik) dd _ _ _ hyx Lw) ?_)
   rintro _ w35 ⟨rfl, ew35⟩
   replace hS := hS.then ew35
   replace hE := ew35.bl hE hB
   replace h1 := h1.Y ew35
   replace hk := hk.Y ew35
   replace hyx := Rep.Y hyx ew35
   replace hkx := hkx.Y ew35
   replace hX := hX.Y ew35
   replace Lw := Lw.Y ew35
   replace hB := ew35.z hB
   refine a_p 9 tK rfl rfl rfl rfl (by kernel_rfl) i3 hS ?_
   refine a_end (by kernel_rfl) ?_
   refine xS ?_
   refine c_ifB _ rfl (fun c47 => ?_) (fun c47 => ?_)
   ·refine q0 (lP 1 tK rfl (q1 (cR (xB (xR (xR (xB (xR (x1_ rfl rfl ?_)))))))))
    exact ⟨by rw [shape_kid hko hik hd c47], hE⟩
   refine cK (x_blk (xS (cG (lP 1 tK rfl ?_))))
   refine lC (o_ai rfl rfl rfl (by omega) rfl rfl ?_)
   refine lP 1 tK rfl (lN ?_)
   exact x_round (i + 1) (s3 rfl rfl rfl) ⟨by omega, kid_step hik hd hall c47, h1, hk, Lw, hE, hB⟩ (by omega)
  refine c_exit (xE (xE (x_blkE (xS (q0 (lP 1 tK rfl (q1 (cR (x1_ rfl rfl ?_)))))))))
  exact ⟨by rw [shape_yes hko hll hsort hhead (fun j x d hx hd => hall j x d (by have := (List.getElem?_eq_some_iff.1 hx).1; omega) hx hd)], hE⟩
 refine lP 10 tK rfl (q1 (c_ifF rfl (cK (xS (cS (q0 (lP 1 tK rfl (q1 (cB ?_)))))))))
 obtain rfl : bk = true := by simpa using c1
 replace hko : kidsOf t.op = some ks := hko
 have hll : t.kids.length = ks.size := by omega
 have hsort : (decide (8 ≤ t.op) == decide ((c.toNat : Int) = 114)) = true := by simpa using c2
 have hhead : headOk t.op t.name t.n = true := by unfold headOk; simp_all <;> omega
 refine c_loop (X := Nat) (fun i => [(2, .pointer (some ⟨b1, 0, none⟩)), (5, .string ks), (7, .int .i64 (i : Nat))]) (fun i w' => i ≤ t.kids.length ∧ (∀ (j : Nat) x d, j < i → t.kids[j]? = some x → ks.data[j]? = some d → shapeF x d = true) ∧ At M w' b1 0 [.int .u8 t.op, .string t.name, .int .i64 t.n, kv] ∧ Sl M w' kv t.kids ∧ Low M w' ∧ Below w.heap.size w w' ∧ w.heap.size ≤ w'.heap.size) (fun i => t.kids.length - i) (0) (s3 rfl rfl rfl) ?_ ?_
 ·exact ⟨Nat.zero_le _, fun j x d hj => absurd hj (Nat.not_lt_zero _), h1, hk, Lw, hE, hB⟩
 rintro i w36 ⟨hi, hall, h1, hk, Lw, hE, hB⟩
 refine cS (q0 (lP 4 tK rfl (q1 ?_)))
 refine cP _ rfl (fun c48 => ?_) (fun c48 => ?_)
 ·refine cK (xS (cS (cB (cS ?_))))
  refine a_beg Ext rfl ?_
  intro w37 ew37
  replace hE := ew37.bl hE hB
  replace h1 := h1.Y ew37
  replace hk := hk.Y ew37
  replace Lw := Lw.Y ew37
  replace hB := ew37.z hB
  have hS : Ext w37 w37 := ext_refl _
  have D_h1 := h1
  have D_hk := hk
  refine a_p 0 tK rfl rfl rfl rfl (by kernel_rfl) i3 hS ?_
  refine a_ld 1 tK (fun _ hs => (D_h1.Y hs).cell 3 _ rfl) rfl rfl rfl rfl rfl rfl (by kernel_rfl) i3 hS ?_
  refine a_p 2 tK rfl rfl rfl rfl (by kernel_rfl) i3 hS ?_
  have hik : i < t.kids.length := by omega
  have hd : ks.data[i]? = some (ks.data[i]'(by have := size_data ks; omega)) := Array.getElem?_eq_getElem _
  generalize hcc : (ks.data[i]'(by have := size_data ks; omega)) = dd at hd
  refine a_ixS 3 tK D_hk (gE hik) rfl rfl rfl rfl rfl rfl rfl rfl rfl rfl (by kernel_rfl) i4 hS ?_
  intro ebx eox eux hyx hX
  obtain ⟨kvx, rfl, opx, nmx, n64x, hkx⟩ := tO hyx
  replace hX : At M w37 ebx eox [.int .u8 t.kids[i].op, .string t.kids[i].name, .int .i64 t.kids[i].n, kvx] := hX
  refine a_lds 4 tK (fun _ hs j v hv => (hX.Y hs).cell j v hv) rfl rfl rfl rfl rfl rfl rfl (by kernel_rfl) i3 hS ?_
  refine a_p 5 tK rfl rfl rfl rfl (by kernel_rfl) i3 hS ?_
  refine a_p 6 tK rfl rfl rfl rfl (by kernel_rfl) i3 hS ?_
  refine a_si 7 tK hd rfl rfl rfl rfl rfl rfl rfl rfl (by kernel_rfl) i3 hS ?_
  refine a_bar 8 rfl (by kernel_rfl) (by kernel_rfl) (oK fo65 rfl rfl rfl (ih _ (gM hik) dd _ _ _ hyx Lw) ?_)
  rintro _ w38 ⟨rfl, ew38⟩
  replace hS := hS.then ew38
  replace hE := ew38.bl hE hB
  replace h1 := h1.Y ew38
  replace hk := hk.Y ew38
  replace hyx := Rep.Y hyx ew38
  replace hkx := hkx.Y ew38
  replace hX := hX.Y ew38
  replace Lw := Lw.Y ew38
  replace hB := ew38.z hB
  refine a_p 9 tK rfl rfl rfl rfl (by kernel_rfl) i3 hS ?_
  refine a_end (by kernel_rfl) ?_
  refine xS ?_
  refine c_ifB _ rfl (fun c49 => ?_) (fun c49 => ?_)
  ·refine q0 (lP 1 tK rfl (q1 (cR (xB (xR (xR (xB (xR (x1_ rfl rfl ?_)))))))))
   exact ⟨by rw [shape_kid hko hik hd c49], hE⟩
  refine cK (x_blk (xS (cG (lP 1 tK rfl ?_))))
  refine lC (o_ai rfl rfl rfl (by omega) rfl rfl ?_)
  refine lP 1 tK rfl (lN ?_)
  exact x_round (i + 1) (s3 rfl rfl rfl) ⟨by omega, kid_step hik hd hall c49, h1, hk, Lw, hE, hB⟩ (by omega)
 refine c_exit (xE (xE (x_blkE (xS (q0 (lP 1 tK rfl (q1 (cR (x1_ rfl rfl ?_)))))))))
 exact ⟨by rw [shape_yes hko hll hsort hhead (fun j x d hx hd => hall j x d (by have := (List.getElem?_eq_some_iff.1 hx).1; omega) hx hd)], hE⟩
end Go.Proofs.Ytpoahmeacjggfaa
namespace Rw
open Go Go.RowKit
/-- A value of so many cells, as it is. -/
structure VN (n : Nat) where
  v : Value
instance (n : Nat) : Rep (VN n) where
  sz := n + 1
  R := fun _ _ v x => v = x.v ∧ v.cells.size = n + 1 ∧ ∀ u ∈ v.cells.toList, u.oneCell' = true
  pos := Nat.succ_pos n
  size := fun h => h.2.1
  one := fun h => h.2.2
  upd := fun h _ => h
  wk := fun h _ => h
section
variable {k e B B' : Nat} {M M' : Nat → Prop} {w w' : World} {v : Value} {l : List (VN k)}
theorem Rs.vn : ∀ {us : List Value} {l : List (VN k)}, Rs M w us l → Rs M' w' us l
  | [], [], _ => trivial
  | _ :: _, _ :: _, h => ⟨h.1, Rs.vn h.2⟩
  | [], _ :: _, h => h.elim
  | _ :: _, [], h => h.elim
theorem OwnSl.keepV (h : OwnSl e B M w v l) (hM : ∀ b, v.ownBlock = some b → M' b) (hb : ∀ b cs T, v.ownBlock = some b → w.heap[b]? = some (.cells cs T (0, 0)) → w'.heap[b]? = w.heap[b]?) : OwnSl e B M' w' v l := by
  obtain ⟨us, hr, hs⟩ := h.row
  refine ⟨⟨us, ⟨hr.1, ?_⟩, hs.vn⟩, hM⟩
  rcases hr.2 with hn | ⟨g, cap, cur, rfl, hB, hg, rest⟩
  · exact .inl hn
  · exact .inr ⟨g, cap, cur, rfl, hB, (hb g _ _ rfl hg).trans hg, rest⟩
theorem OwnSl.geV (h : OwnSl e B M w v l) (hB : B' ≤ B) : OwnSl e B' M w v l := by
  obtain ⟨us, hr, hs⟩ := h.row
  refine ⟨⟨us, ⟨hr.1, ?_⟩, hs⟩, h.inM⟩
  rcases hr.2 with hn | ⟨g, cap, cur, rfl, hB', hg, rest⟩
  · exact .inl hn
  · exact .inr ⟨g, cap, cur, rfl, Nat.le_trans hB hB', hg, rest⟩
theorem OwnSl.slV (h : OwnSl e B M w v l) (hl : l.length < 140737488355328) {M0 : Nat → Prop} (h0 : ∀ b, v.ownBlock = some b → ¬ M0 b) : Sl M0 w v l := by
  obtain ⟨us, hr, hs⟩ := h.row
  have hlt := hr.lt
  rcases hr.2 with ⟨rfl, hn⟩ | ⟨g, cap, cur, rfl, hB, hg, hc, _, _, htake⟩
  · have : l = [] := List.eq_nil_of_length_eq_zero hn
    subst this
    exact sl_nil
  · refine ⟨_, cap, rfl, hl, hc, .inr ⟨g, 0, rfl, fun i x hx => ?_⟩⟩
    obtain ⟨u, hu, hR⟩ := hs.get hx
    refine ⟨u, hR, (hlt g rfl).2, h0 g rfl, fun j c hc => ?_⟩
    have := hr.cells (g := g) rfl (i * Rep.sz (VN k) + j) c (hs.flat_get hu j c hc)
    rw [addr_add] at this
    rwa [show 0 + i * Rep.sz (VN k) + j = 0 + (i * Rep.sz (VN k) + j) by omega]
theorem Sl.ofV {α : Type} [Rep α] (hk : Rep.sz α = k + 1) {ts : List α} (h : Sl M w v l) (hlen : l.length = ts.length) (hu : ∀ (i : Nat) (x : α) (u : VN k), ts[i]? = some x → l[i]? = some u → Rep.R M w u.v x) : Sl M w v ts := by
  obtain ⟨a, c, hv, h1, h2, he⟩ := h
  refine ⟨a, c, by rw [hv, hlen], by omega, by omega, ?_⟩
  rcases he with he | ⟨b, off, ha, hx⟩
  · left
    subst he
    exact List.eq_nil_of_length_eq_zero hlen.symm
  · right
    refine ⟨b, off, ha, fun i x hi => ?_⟩
    have hlt : i < l.length := by rw [hlen]; exact (List.getElem?_eq_some_iff.1 hi).1
    obtain ⟨u, ⟨e1, _⟩, hat⟩ := hx i _ (gE hlt)
    refine ⟨u, by rw [e1]; exact hu i x _ hi (gE hlt), ?_⟩
    rw [hk]; exact hat
end
/-- The blocks of F, and those that are new. -/
def Plus (F : Nat → Prop) (w w' : World) : Nat → Prop := fun c => F c ∨ (w.heap.size ≤ c ∧ c < w'.heap.size)
/-- The blocks of Q are as they were. -/
structure Kept (w0 w : World) (Q : Nat → Prop) : Prop where
  size : w0.heap.size ≤ w.heap.size
  old : ∀ x, Q x → x < w0.heap.size
  blk : ∀ x, Q x → w.heap[x]? = w0.heap[x]?
theorem Kept.refl {w : World} {Q : Nat → Prop} (h : ∀ x, Q x → x < w.heap.size) : Kept w w Q := ⟨lR _, h, fun _ _ => rfl⟩
theorem Kept.lt {w0 w : World} {Q : Nat → Prop} (h : Kept w0 w Q) (x : Nat) (hx : Q x) : 0 ≤ x ∧ x < w.heap.size := ⟨Nat.zero_le _, lT (h.old x hx) h.size⟩
theorem Kept.Y {w0 w w' : World} {Q M : Nat → Prop} {B : Nat} (h : Kept w0 w Q) (_hl : Low M w) (_hB : B ≤ w.heap.size) (e : Ext w w') : Kept w0 w' Q := ⟨Nat.le_trans h.size e.size, h.old, fun x hx => (e.block x (h.lt x hx).2).trans (h.blk x hx)⟩
theorem Kept.sp {w0 w w' : World} {Q M M' : Nat → Prop} {B : Nat} (h : Kept w0 w Q) (s : Stp B M M' w w') (hb : ∀ x, Q x → w'.heap[x]? = w.heap[x]?) : Kept w0 w' Q := ⟨Nat.le_trans h.size s.upd.1, h.old, fun x hx => (hb x hx).trans (h.blk x hx)⟩
/-- What isn't in F. -/
def Out (F : Nat → Prop) (w : World) : Nat → Prop := fun x => x < w.heap.size ∧ ¬ F x
/-- One set or the other. -/
def Or2 (M G : Nat → Prop) : Nat → Prop := fun c => M c ∨ G c
theorem Stp.more {B : Nat} {M M' G : Nat → Prop} {w w' : World} (h : Stp B M M' w w') (hG : ∀ c, G c → w.heap.size ≤ c ∧ c < w'.heap.size) : Stp B M (Or2 M' G) w w' :=
  ⟨h.upd, fun b hb hm => hm.elim (h.wk b hb) (fun hg => by have := (hG b hg).1; omega), fun b hb => .inl (h.sub b hb), fun b hb => hb.elim (h.low b) (fun hg => (hG b hg).2), h.below⟩
/-- The first i have been mapped. -/
def mapTo {α : Type} (g : α → α) (l : List α) (i : Nat) : List α := (l.take i).map g ++ l.drop i
section
variable {α : Type} {g : α → α} {l : List α} {i : Nat}
theorem mapTo_zero : mapTo g l 0 = l := by simp [mapTo]
theorem mapTo_len : (mapTo g l i).length = l.length := by simp [mapTo]; omega
theorem mapTo_get (hi : i < l.length) : (mapTo g l i)[i]? = some l[i] := by
  unfold mapTo
  rw [List.getElem?_append_right (by simp; omega), List.getElem?_drop]
  simp only [List.length_map, List.length_take]
  rw [show i + (i - min i l.length) = i by omega, gE hi]
theorem mapTo_set (hi : i < l.length) : (mapTo g l i).set i (g l[i]) = mapTo g l (i + 1) := by
  unfold mapTo
  rw [List.take_succ_eq_append_getElem hi, List.map_append, List.drop_eq_getElem_cons hi, List.set_append_right _ _ (by simp; omega)]
  simp only [List.length_map, List.length_take]
  rw [show i - min i l.length = 0 by omega, List.set_cons_zero, List.append_assoc]
  rfl
theorem mapTo_all (hi : l.length ≤ i) : mapTo g l i = l.map g := by
  unfold mapTo
  rw [List.take_of_length_le hi, List.drop_eq_nil_of_le hi, List.append_nil]
end
/-- The value is the tree; all its blocks are in F (and from E's rows, from B on). -/
inductive OTy (E B : Nat) (w : World) : Ty → Value → (Nat → Prop) → Prop
  | mk {op n : Int} {name : ByteArray} {kids : List Ty} {kv : Value} (us : List (VN 3)) (Fs : Nat → Nat → Prop) (F : Nat → Prop)
      (hop : 0 ≤ op ∧ op ≤ 255) (hs : name.size < 140737488355328) (hn : I64 n) (hl : kids.length < 140737488355328)
      (hlt : ∀ c, F c → B ≤ c ∧ c < w.heap.size) (hr : OwnSl E B F w kv us) (hlen : us.length = kids.length)
      (hu : ∀ (i : Nat) (x : Ty) (u : VN 3), kids[i]? = some x → us[i]? = some u → OTy E B w x u.v (Fs i))
      (hF : ∀ i c, i < kids.length → Fs i c → F c ∧ kv.ownBlock ≠ some c)
      (hd : ∀ i j c, i < kids.length → j < kids.length → i ≠ j → Fs i c → ¬ Fs j c) :
      OTy E B w (.mk op name n kids) (.agg #[.int .u8 op, .string name, .int .i64 n, kv]) F
/-- Trees, one by one, that share nothing. -/
structure OTs (E B : Nat) (w : World) (us : List (VN 3)) (ts : List Ty) (F : Nat → Prop) : Prop where
  len : us.length = ts.length
  lt : ∀ c, F c → B ≤ c ∧ c < w.heap.size
  fam : ∃ Fs : Nat → Nat → Prop, (∀ (i : Nat) (x : Ty) (u : VN 3), ts[i]? = some x → us[i]? = some u → OTy E B w x u.v (Fs i)) ∧ (∀ i c, i < ts.length → Fs i c → F c) ∧
    (∀ i j c, i < ts.length → j < ts.length → i ≠ j → Fs i c → ¬ Fs j c)
section
variable {E B B' : Nat} {w w' : World} {t x : Ty} {v : Value} {us : List (VN 3)} {ts : List Ty} {F F' G G' : Nat → Prop} {M M' : Nat → Prop}
theorem oty_open (h : OTy E B w t v F) : ∃ (kv : Value) (us : List (VN 3)) (H : Nat → Prop), v = .agg #[.int .u8 t.op, .string t.name, .int .i64 t.n, kv] ∧ (0 ≤ t.op ∧ t.op ≤ 255) ∧ t.name.size < 140737488355328 ∧ I64 t.n ∧ t.kids.length < 140737488355328 ∧
    OwnSl E B F w kv us ∧ OTs E B w us t.kids H ∧ (∀ c, H c → F c ∧ kv.ownBlock ≠ some c) := by
  cases h with
  | mk us Fs F hop hs hn hl hlt hr hlen hu hF hd =>
    refine ⟨_, us, fun c => ∃ i, i < _ ∧ Fs i c, rfl, hop, hs, hn, hl, hr, ⟨hlen, fun c ⟨i, hi, hc⟩ => hlt c (hF i c hi hc).1, Fs, hu, fun i c hi hc => ⟨i, hi, hc⟩, hd⟩, fun c ⟨i, hi, hc⟩ => hF i c hi hc⟩
theorem oty_mk {kv : Value} {op n : Int} {name : ByteArray} {kids : List Ty} {H : Nat → Prop} (h1 : 0 ≤ op ∧ op ≤ 255) (h2 : name.size < 140737488355328) (h3 : I64 n) (h4 : kids.length < 140737488355328) (hlt : ∀ c, F c → B ≤ c ∧ c < w.heap.size)
    (hr : OwnSl E B F w kv us) (hk : OTs E B w us kids H) (hH : ∀ c, H c → F c ∧ kv.ownBlock ≠ some c) : OTy E B w (.mk op name n kids) (.agg #[.int .u8 op, .string name, .int .i64 n, kv]) F := by
  obtain ⟨Fs, h5, h6, h7⟩ := hk.fam
  exact .mk us Fs F h1 h2 h3 h4 hlt hr hk.len h5 (fun i c hi hc => hH c (h6 i c hi hc)) h7
theorem OTy.lt (h : OTy E B w t v F) : ∀ c, F c → B ≤ c ∧ c < w.heap.size := by
  cases h with
  | mk us Fs F hop hs hn hl hlt => exact hlt
theorem OTy.keepC (h : OTy E B w t v F) (hs : w.heap.size ≤ w'.heap.size) (hw : ∀ c cs T, F c → w.heap[c]? = some (.cells cs T (0, 0)) → w'.heap[c]? = w.heap[c]?) : OTy E B w' t v F := by
  induction h with
  | mk us Fs F hop hnm hn hl hlt hr hlen hu hF hd ih =>
    exact .mk us Fs F hop hnm hn hl (fun c hc => ⟨(hlt c hc).1, lT (hlt c hc).2 hs⟩) (hr.keepV hr.inM fun b cs T hb hg => hw b cs T (hr.inM b hb) hg) hlen (fun i x u hx hu' => ih i x u hx hu' fun c cs T hc => hw c cs T (hF i c (List.getElem?_eq_some_iff.1 hx).1 hc).1) hF hd
theorem OTy.keep (h : OTy E B w t v F) (hs : w.heap.size ≤ w'.heap.size) (hw : ∀ c, F c → w'.heap[c]? = w.heap[c]?) : OTy E B w' t v F := h.keepC hs fun c _ _ hc _ => hw c hc
theorem OTy.Y (h : OTy E B w t v F) (_hl : Low M w) (_hB : B ≤ w.heap.size) (e : Ext w w') : OTy E B w' t v F := h.keep e.size fun c hc => e.block c (h.lt c hc).2
theorem OTy.sp (h : OTy E B w t v F) (s : Stp B' M M' w w') (hw : ∀ c, F c → w'.heap[c]? = w.heap[c]?) : OTy E B w' t v F := h.keep s.upd.1 hw
theorem OTy.mono (h : OTy E B w t v F) (hF : ∀ c, F c → F' c) (hlt : ∀ c, F' c → B ≤ c ∧ c < w.heap.size) : OTy E B w t v F' := by
  cases h with
  | mk us Fs F hop hs hn hl _ hr hlen hu hFs hd => exact .mk us Fs F' hop hs hn hl hlt (hr.keepV (fun b hb => hF b (hr.inM b hb)) fun _ _ _ _ _ => rfl) hlen hu (fun i c hi hc => ⟨hF c (hFs i c hi hc).1, (hFs i c hi hc).2⟩) hd
theorem OTy.ge (h : OTy E B w t v F) (hB : B' ≤ B) : OTy E B' w t v F := by
  induction h with
  | mk us Fs F hop hs hn hl hlt hr hlen hu hF hd ih => exact .mk us Fs F hop hs hn hl (fun c hc => ⟨Nat.le_trans hB (hlt c hc).1, (hlt c hc).2⟩) (hr.geV hB) hlen ih hF hd
theorem OTy.size (h : OTy E B w t v F) : v.cells.size = 4 := by cases h; rfl
theorem OTy.rep (h : OTy E B w t v F) (hM : ∀ c, F c → ¬ M c) : Rep.R M w v t := by
  induction h with
  | mk us Fs F hop hs hn hl hlt hr hlen hu hF hd ih =>
    exact ty_mk hop hs hn ((hr.slV (M0 := M) (by omega) (fun b hb => hM b (hr.inM b hb))).ofV (k := 3) rfl hlen fun i x u hx hu' => ih i x u hx hu' fun c hc => hM c (hF i c (List.getElem?_eq_some_iff.1 hx).1 hc).1)
theorem OTy.one (h : OTy E B w t v F) : ∀ u ∈ v.cells.toList, u.oneCell' = true := Rep.one (h.rep (M := NoM) fun _ _ h => h)
theorem OTy.vn (h : OTy E B w t v F) : Rep.R M w' v (⟨v⟩ : VN 3) := ⟨rfl, h.size, h.one⟩
theorem OTy.repNew {w0 : World} (h : OTy E B w t v (Plus NoM w0 w)) (Lw : Low M w0) : Rep.R M w v t := h.rep fun c hc hm => by
  have := Lw c hm
  rcases hc with hc | hc
  · exact hc
  · omega
theorem ots_nil (hlt : ∀ c, F c → B ≤ c ∧ c < w.heap.size) : OTs E B w [] [] F := ⟨rfl, hlt, fun _ _ => False, fun i x u h => by simp at h, fun i c h => by simp at h, fun i j c h => by simp at h⟩
theorem OTs.keepC (h : OTs E B w us ts F) (hs : w.heap.size ≤ w'.heap.size) (hw : ∀ c cs T, F c → w.heap[c]? = some (.cells cs T (0, 0)) → w'.heap[c]? = w.heap[c]?) : OTs E B w' us ts F := by
  obtain ⟨Fs, h5, h6, h7⟩ := h.fam
  exact ⟨h.len, fun c hc => ⟨(h.lt c hc).1, lT (h.lt c hc).2 hs⟩, Fs, fun i x u hx hu => (h5 i x u hx hu).keepC hs fun c cs T hc => hw c cs T (h6 i c (List.getElem?_eq_some_iff.1 hx).1 hc), h6, h7⟩
theorem OTs.keep (h : OTs E B w us ts F) (hs : w.heap.size ≤ w'.heap.size) (hw : ∀ c, F c → w'.heap[c]? = w.heap[c]?) : OTs E B w' us ts F := h.keepC hs fun c _ _ hc _ => hw c hc
theorem OTs.Y (h : OTs E B w us ts F) (_hl : Low M w) (_hB : B ≤ w.heap.size) (e : Ext w w') : OTs E B w' us ts F := h.keep e.size fun c hc => e.block c (h.lt c hc).2
theorem OTs.sp (h : OTs E B w us ts F) (s : Stp B' M M' w w') (hw : ∀ c, F c → w'.heap[c]? = w.heap[c]?) : OTs E B w' us ts F := h.keep s.upd.1 hw
theorem OTs.app (h : OTs E B w us ts F) (hx : OTy E B w x v G) (hd : ∀ c, G c → ¬ F c) : OTs E B w (us ++ [⟨v⟩]) (ts ++ [x]) (fun c => F c ∨ G c) := by
  obtain ⟨Fs, h5, h6, h7⟩ := h.fam
  refine ⟨by simp [h.len], fun c hc => hc.elim (h.lt c) (hx.lt c), fun i c => if i < ts.length then Fs i c else G c, fun i y u hy hu => ?_, fun i c hi hc => ?_, fun i j c hi hj hij hc hc' => ?_⟩
  · by_cases hlt : i < ts.length
    · have hlt' : i < us.length := by rw [h.len]; exact hlt
      rw [List.getElem?_append_left hlt] at hy
      rw [List.getElem?_append_left hlt'] at hu
      simp only [hlt, if_true]
      exact h5 i y u hy hu
    · have h8 := (List.getElem?_eq_some_iff.1 hy).1
      simp only [List.length_append, List.length_singleton] at h8
      obtain rfl : i = ts.length := by omega
      rw [List.getElem?_append_right (lR _)] at hy
      rw [← h.len, List.getElem?_append_right (lR _)] at hu
      simp at hy hu
      subst hy; subst hu
      simpa using hx
  · by_cases hlt : i < ts.length
    · simp only [hlt, if_true] at hc; exact .inl (h6 i c hlt hc)
    · simp only [hlt, if_false] at hc; exact .inr hc
  · simp only [List.length_append, List.length_singleton] at hi hj
    by_cases hlt : i < ts.length
    · simp only [hlt, if_true] at hc
      by_cases hlt' : j < ts.length
      · simp only [hlt', if_true] at hc'; exact h7 i j c hlt hlt' hij hc hc'
      · simp only [hlt', if_false] at hc'; exact hd c hc' (h6 i c hlt hc)
    · simp only [hlt, if_false] at hc
      by_cases hlt' : j < ts.length
      · simp only [hlt', if_true] at hc'; exact hd c hc (h6 j c hlt' hc')
      · omega
/-- .. with number i taken out: its blocks are G. -/
structure OTh (E B : Nat) (w : World) (us : List (VN 3)) (ts : List Ty) (i : Nat) (F G : Nat → Prop) : Prop where
  len : us.length = ts.length
  at' : i < ts.length
  lt : ∀ c, F c → B ≤ c ∧ c < w.heap.size
  fam : ∃ Fs : Nat → Nat → Prop, (∀ (j : Nat) (x : Ty) (u : VN 3), j ≠ i → ts[j]? = some x → us[j]? = some u → OTy E B w x u.v (Fs j)) ∧ (∀ j c, j < ts.length → j ≠ i → Fs j c → F c ∧ ¬ G c) ∧
    (∀ j k c, j < ts.length → k < ts.length → j ≠ i → k ≠ i → j ≠ k → Fs j c → ¬ Fs k c)
theorem OTs.take (h : OTs E B w us ts F) {i : Nat} (hx : ts[i]? = some x) : ∃ (u : VN 3) (G : Nat → Prop), us[i]? = some u ∧ OTy E B w x u.v G ∧ (∀ c, G c → F c) ∧ OTh E B w us ts i F G := by
  obtain ⟨Fs, h5, h6, h7⟩ := h.fam
  have hi := (List.getElem?_eq_some_iff.1 hx).1
  have hi' : i < us.length := by rw [h.len]; exact hi
  exact ⟨_, Fs i, gE hi', h5 i x _ hx (gE hi'), fun c hc => h6 i c hi hc, h.len, hi, h.lt, Fs, fun j y u _ hy hu => h5 j y u hy hu, fun j c hj hji hc => ⟨h6 j c hj hc, h7 j i c hj hi hji hc⟩, fun j k c hj hk _ _ hjk => h7 j k c hj hk hjk⟩
theorem OTh.keep {i : Nat} (h : OTh E B w us ts i F G) (hs : w.heap.size ≤ w'.heap.size) (hw : ∀ c, F c → ¬ G c → w'.heap[c]? = w.heap[c]?) : OTh E B w' us ts i F G := by
  obtain ⟨Fs, h5, h6, h7⟩ := h.fam
  exact ⟨h.len, h.at', fun c hc => ⟨(h.lt c hc).1, lT (h.lt c hc).2 hs⟩, Fs, fun j y u hj hy hu => (h5 j y u hj hy hu).keep hs fun c hc => have hq := h6 j c (List.getElem?_eq_some_iff.1 hy).1 hj hc; hw c hq.1 hq.2, h6, h7⟩
theorem OTh.Y {i : Nat} (h : OTh E B w us ts i F G) (_hl : Low M w) (_hB : B ≤ w.heap.size) (e : Ext w w') : OTh E B w' us ts i F G := h.keep e.size fun c hc _ => e.block c (h.lt c hc).2
theorem OTh.sp {i : Nat} (h : OTh E B w us ts i F G) (s : Stp B' M M' w w') (hw : ∀ c, F c → ¬ G c → w'.heap[c]? = w.heap[c]?) : OTh E B w' us ts i F G := h.keep s.upd.1 hw
theorem OTh.put {i : Nat} (h : OTh E B w us ts i F G) (hx : OTy E B w x v G') (hG : ∀ c, G' c → G c ∨ ¬ F c) : OTs E B w (us.set i ⟨v⟩) (ts.set i x) (fun c => F c ∨ G' c) := by
  obtain ⟨Fs, h5, h6, h7⟩ := h.fam
  have hi := h.at'
  have hi' : i < us.length := by rw [h.len]; exact hi
  refine ⟨by simp [h.len], fun c hc => hc.elim (h.lt c) (hx.lt c), fun j c => if j = i then G' c else Fs j c, fun j y u hy hu => ?_, fun j c hj hc => ?_, fun j k c hj hk hjk hc hc' => ?_⟩
  · by_cases e : j = i
    · subst e
      simp [hi] at hy
      simp [hi'] at hu
      subst hy; subst hu
      simpa using hx
    · rw [List.getElem?_set_ne (fun e' => e e'.symm)] at hy hu
      simp only [e, if_false]
      exact h5 j y u e hy hu
  · rw [List.length_set] at hj
    by_cases e : j = i
    · simp only [e, if_true] at hc; exact .inr hc
    · simp only [e, if_false] at hc; exact .inl (h6 j c hj e hc).1
  · rw [List.length_set] at hj hk
    have key : ∀ j c, j < ts.length → j ≠ i → Fs j c → ¬ G' c := fun j c hj hji hc hg => (hG c hg).elim (h6 j c hj hji hc).2 (fun hn => hn (h6 j c hj hji hc).1)
    by_cases e : j = i
    · simp only [e, if_true] at hc
      by_cases e' : k = i
      · omega
      · simp only [e', if_false] at hc'; exact key k c hk e' hc' hc
    · simp only [e, if_false] at hc
      by_cases e' : k = i
      · simp only [e', if_true] at hc'; exact key j c hj e hc hc'
      · simp only [e', if_false] at hc'; exact h7 j k c hj hk e e' hjk hc hc'
theorem oty_fin {w0 : World} {kv : Value} {op n : Int} {name : ByteArray} {kids : List Ty} (h1 : 0 ≤ op ∧ op ≤ 255) (h2 : name.size < 140737488355328) (h3 : I64 n) (h4 : kids.length < 140737488355328)
    (hr : OwnSl E w0.heap.size M w kv us) (hk : OTs E w0.heap.size w us kids F) (hd : ∀ x y, kv.ownBlock = some x → F y → x ≠ y) : OTy E w0.heap.size w (.mk op name n kids) (.agg #[.int .u8 op, .string name, .int .i64 n, kv]) (Plus NoM w0 w) :=
  oty_mk h1 h2 h3 h4 (fun c hc => hc.elim (fun h => h.elim) id) (hr.keepV (fun b hb => .inr (hr.lt b hb)) fun _ _ _ _ _ => rfl) hk fun c hc => ⟨.inr (hk.lt c hc), fun e => hd c c e hc rfl⟩
theorem own_ones {e k : Nat} {kv : Value} {l : List (VN k)} {op n : Int} {name : ByteArray} (h : OwnSl e B M w kv l) : ∀ u ∈ (Value.agg #[.int .u8 op, .string name, .int .i64 n, kv]).cells.toList, u.oneCell' = true := by
  obtain ⟨a, c, rfl, _⟩ := h.val
  intro u hu
  simp [Value.cells] at hu
  rcases hu with rfl | rfl | rfl | rfl <;> rfl
theorem oty_leaf {op n : Int} {name : ByteArray} {w0 : World} (h1 : 0 ≤ op ∧ op ≤ 255) (h2 : name.size < 140737488355328) (h3 : I64 n) : OTy E w0.heap.size w (.mk op name n []) (.agg #[.int .u8 op, .string name, .int .i64 n, .slice none 0 0]) (Plus NoM w0 w) :=
  oty_fin (M := NoM) (F := NoM) (us := []) h1 h2 h3 (by simp) own_nil (ots_nil (fun _ h => h.elim)) (fun _ _ _ h => h.elim)
end
end Rw
namespace Go.Proofs.Ytpoahmeacjggfaa
open Go Rw Go.RowKit
set_option maxRecDepth 4000
theorem once_spec (t : Ty) (M : Nat → Prop) (w : World) (v : Value) (ht : Rep.R M w v t) (Lw : Low M w) (hsz : psz t ≤ 2000000) :
  Calls Try.prog 66 #[v] w (Ret fun r w' => r = .bool (onceB t) ∧ Ext w w') := by
 have hE := Below.refl w.heap.size w
 have hB := lR w.heap.size
 obtain ⟨kv, rfl, op, nm, n64, hk⟩ := tO ht
 refine cN (n := 47) Try.func66 rfl rfl rfl ?_
 refine q0 ?_
 refine lC (o_box rfl rfl rfl ?_)
 intro b1 w1 hb_b1 ew1 h1
 replace h1 : Box _ b1 25 [.int .u8 t.op, .string t.name, .int .i64 t.n, kv] := h1
 replace h1 := h1.at (nO Lw hb_b1)
 replace hE := ew1.bl hE hB
 replace ht := Rep.Y ht ew1
 replace hk := hk.Y ew1
 replace Lw := Lw.Y ew1
 replace hB := ew1.z hB
 refine lP 1 tK rfl (q1 (q0 ?_))
 refine lC (oL tK (fun j v hv => h1.cell j v hv) rfl rfl rfl rfl rfl rfl ?_)
 refine lC (oK fo21 rfl rfl rfl (parts_spec t M _ _ ht Lw hsz) ?_)
 rintro vhp w2 ⟨hp, ew2⟩
 replace hE := ew2.bl hE hB
 replace ht := Rep.Y ht ew2
 replace hk := hk.Y ew2
 replace h1 := h1.Y ew2
 replace Lw := Lw.Y ew2
 replace hB := ew2.z hB
 have hpl : (partsL t).length = psz t := rfl
 refine lP 1 tK rfl (q1 (cS (q0 (lP 1 tK rfl (q1 (cB ?_))))))
 refine c_loop (X := Nat) (fun i => [(3, vhp), (4, .int .i64 (i : Nat))]) (fun i w' => i ≤ (partsL t).length ∧ (∀ (a b : Nat) (x y : Ty), a < i → (partsL t)[a]? = some x → (partsL t)[b]? = some y → ¬ (x.op = 7 ∧ y.op = 10 ∧ x.n = y.n)) ∧ Sl M w' vhp (partsL t) ∧ Low M w' ∧ Below w.heap.size w w' ∧ w.heap.size ≤ w'.heap.size) (fun i => (partsL t).length - i) (0) (s2 rfl rfl) ?_ ?_
 ·exact ⟨Nat.zero_le _, fun a b x y ha => absurd ha (Nat.not_lt_zero _), hp, Lw, hE, hB⟩
 rintro i w3 ⟨hi, hout, hp, Lw, hE, hB⟩
 refine cS (q0 (lP 2 tK rfl ?_))
 refine lC (o_len tK hp rfl rfl rfl rfl rfl ?_)
 refine lP 1 tK rfl (q1 ?_)
 refine cP _ rfl (fun c1 => ?_) (fun c1 => ?_)
 ·refine cK (xS (cS (cB (q0 (lP 1 tK rfl (q1 (cB ?_)))))))
  have hil : i < (partsL t).length := by omega
  refine c_loop (X := Nat) (fun k => [(3, vhp), (4, .int .i64 (i : Nat)), (5, .int .i64 (k : Nat))]) (fun k w' => k ≤ (partsL t).length ∧ (∀ (b : Nat) (y : Ty), b < k → (partsL t)[b]? = some y → ¬ ((partsL t)[i].op = 7 ∧ y.op = 10 ∧ (partsL t)[i].n = y.n)) ∧ Sl M w' vhp (partsL t) ∧ Low M w' ∧ Below w.heap.size w w' ∧ w.heap.size ≤ w'.heap.size) (fun k => (partsL t).length - k) (0) (s3 rfl rfl rfl) ?_ ?_
  ·exact ⟨Nat.zero_le _, fun b y hb => absurd hb (Nat.not_lt_zero _), hp, Lw, hE, hB⟩
  rintro k w4 ⟨hk, hin, hp, Lw, hE, hB⟩
  refine cS (q0 (lP 2 tK rfl ?_))
  refine lC (o_len tK hp rfl rfl rfl rfl rfl ?_)
  refine lP 1 tK rfl (q1 ?_)
  refine cP _ rfl (fun c2 => ?_) (fun c2 => ?_)
  ·refine cK (xS (cS (cB (cS ?_))))
   refine a_beg Ext rfl ?_
   intro w5 ew5
   replace hE := ew5.bl hE hB
   replace hp := hp.Y ew5
   replace Lw := Lw.Y ew5
   replace hB := ew5.z hB
   have hS : Ext w5 w5 := ext_refl _
   have D_hp := hp
   refine a_p 0 tK rfl rfl rfl rfl (by kernel_rfl) i3 hS ?_
   refine a_p 1 tK rfl rfl rfl rfl (by kernel_rfl) i3 hS ?_
   have hklx3 : k < (partsL t).length := by omega
   refine a_ixS 2 tK D_hp (gE hil) rfl rfl rfl rfl rfl rfl rfl rfl rfl rfl (by kernel_rfl) i4 hS ?_
   intro ebx3 eox3 eux3 hyx3 hatx3
   obtain ⟨kvx3, rfl, opx3, nmx3, n64x3, hkx3⟩ := tO hyx3
   replace hatx3 : At M w5 ebx3 eox3 [.int .u8 (partsL t)[i].op, .string (partsL t)[i].name, .int .i64 (partsL t)[i].n, kvx3] := hatx3
   refine a_p 3 tK rfl rfl rfl rfl (by kernel_rfl) i3 hS ?_
   refine a_ld 4 tK (fun _ hs => (hatx3.Y hs).cell 0 _ rfl) rfl rfl rfl rfl rfl rfl (by kernel_rfl) i3 hS ?_
   refine a_p 5 tK rfl rfl rfl rfl (by kernel_rfl) i3 hS ?_
   refine a_p 6 tK rfl rfl rfl rfl (by kernel_rfl) i3 hS ?_
   refine a_splitP 26 _ rfl (fun c4 => ?_) (fun c4 => ?_)
   ·refine a_p 7 tK rfl rfl rfl rfl (by kernel_rfl) i3 hS ?_
    refine a_p 8 tK rfl rfl rfl rfl (by kernel_rfl) i3 hS ?_
    have hklx5 : k < (partsL t).length := by omega
    refine a_ixS 9 tK D_hp (gE hklx5) rfl rfl rfl rfl rfl rfl rfl rfl rfl rfl (by kernel_rfl) i4 hS ?_
    intro ebx5 eox5 eux5 hyx5 hatx5
    obtain ⟨kvx5, rfl, opx5, nmx5, n64x5, hkx5⟩ := tO hyx5
    replace hatx5 : At M w5 ebx5 eox5 [.int .u8 (partsL t)[k].op, .string (partsL t)[k].name, .int .i64 (partsL t)[k].n, kvx5] := hatx5
    refine a_p 10 tK rfl rfl rfl rfl (by kernel_rfl) i3 hS ?_
    refine a_ld 11 tK (fun _ hs => (hatx5.Y hs).cell 0 _ rfl) rfl rfl rfl rfl rfl rfl (by kernel_rfl) i3 hS ?_
    refine a_p 12 tK rfl rfl rfl rfl (by kernel_rfl) i3 hS ?_
    refine a_p 13 tK rfl rfl rfl rfl (by kernel_rfl) i3 hS ?_
    refine a_p 14 tK rfl rfl rfl rfl (by kernel_rfl) i3 hS ?_
    refine a_splitP 34 _ rfl (fun c6 => ?_) (fun c6 => ?_)
    ·refine a_p 15 tK rfl rfl rfl rfl (by kernel_rfl) i3 hS ?_
     refine a_p 16 tK rfl rfl rfl rfl (by kernel_rfl) i3 hS ?_
     have hklx7 : k < (partsL t).length := by omega
     refine a_ixS 17 tK D_hp (gE hil) rfl rfl rfl rfl rfl rfl rfl rfl rfl rfl (by kernel_rfl) i4 hS ?_
     intro ebx7 eox7 eux7 hyx7 hatx7
     obtain ⟨kvx7, rfl, opx7, nmx7, n64x7, hkx7⟩ := tO hyx7
     replace hatx7 : At M w5 ebx7 eox7 [.int .u8 (partsL t)[i].op, .string (partsL t)[i].name, .int .i64 (partsL t)[i].n, kvx7] := hatx7
     refine a_p 18 tK rfl rfl rfl rfl (by kernel_rfl) i3 hS ?_
     refine a_ld 19 tK (fun _ hs => (hatx7.Y hs).cell 2 _ rfl) rfl rfl rfl rfl rfl rfl (by kernel_rfl) i3 hS ?_
     refine a_p 20 tK rfl rfl rfl rfl (by kernel_rfl) i3 hS ?_
     refine a_p 21 tK rfl rfl rfl rfl (by kernel_rfl) i3 hS ?_
     have hklx8 : k < (partsL t).length := by omega
     refine a_ixS 22 tK D_hp (gE hklx8) rfl rfl rfl rfl rfl rfl rfl rfl rfl rfl (by kernel_rfl) i4 hS ?_
     intro ebx8 eox8 eux8 hyx8 hatx8
     obtain ⟨kvx8, rfl, opx8, nmx8, n64x8, hkx8⟩ := tO hyx8
     replace hatx8 : At M w5 ebx8 eox8 [.int .u8 (partsL t)[k].op, .string (partsL t)[k].name, .int .i64 (partsL t)[k].n, kvx8] := hatx8
     refine a_p 23 tK rfl rfl rfl rfl (by kernel_rfl) i3 hS ?_
     refine a_ld 24 tK (fun _ hs => (hatx8.Y hs).cell 2 _ rfl) rfl rfl rfl rfl rfl rfl (by kernel_rfl) i3 hS ?_
     refine a_p 25 tK rfl rfl rfl rfl (by kernel_rfl) i3 hS ?_
     refine a_p 26 tK rfl rfl rfl rfl (by kernel_rfl) i3 hS ?_
     refine a_end (by kernel_rfl) ?_
     refine xS ?_
     refine cP _ rfl (fun c9 => ?_) (fun c9 => ?_)
     ·refine q0 (lP 1 tK rfl (q1 (cR (xB (xR (xR (xB (xB (xR (xR (xB (xR (x1_ rfl rfl ?_)))))))))))))
      have hkl : k < (partsL t).length := by omega
      exact ⟨by rw [once_no hil hkl (by assumption) (by assumption) (by assumption)], hE⟩
     refine cK (x_blk (xS (cG (lP 1 tK rfl ?_))))
     refine lC (o_ai rfl rfl rfl (by omega) rfl rfl ?_)
     refine lP 1 tK rfl (lN ?_)
     have hkl : k < (partsL t).length := by omega
     exact x_round (k + 1) (s3 rfl rfl rfl) ⟨by omega, conf_step hin hkl (fun h => by obtain ⟨h1, h2, h3⟩ := h; first | exact absurd h1 (by assumption) | exact absurd h2 (by assumption) | exact absurd h3 (by assumption)), hp, Lw, hE, hB⟩ (by omega)
    refine aK 15 rfl rfl rfl (by kernel_rfl) i3 hS ?_
    refine aK 16 rfl rfl rfl (by kernel_rfl) i3 hS ?_
    refine aK 17 rfl rfl rfl (by kernel_rfl) i3 hS ?_
    refine aK 18 rfl rfl rfl (by kernel_rfl) i3 hS ?_
    refine aK 19 rfl rfl rfl (by kernel_rfl) i3 hS ?_
    refine aK 20 rfl rfl rfl (by kernel_rfl) i3 hS ?_
    refine aK 21 rfl rfl rfl (by kernel_rfl) i3 hS ?_
    refine aK 22 rfl rfl rfl (by kernel_rfl) i3 hS ?_
    refine aK 23 rfl rfl rfl (by kernel_rfl) i3 hS ?_
    refine aK 24 rfl rfl rfl (by kernel_rfl) i3 hS ?_
    refine aK 25 rfl rfl rfl (by kernel_rfl) i3 hS ?_
    refine a_p 26 tK rfl rfl rfl rfl (by kernel_rfl) i3 hS ?_
    refine a_end (by kernel_rfl) ?_
    refine xS (c_ifF rfl (cK (x_blk (xS (cG (lP 1 tK rfl ?_))))))
    refine lC (o_ai rfl rfl rfl (by omega) rfl rfl ?_)
    refine lP 1 tK rfl (lN ?_)
    have hkl : k < (partsL t).length := by omega
    exact x_round (k + 1) (s3 rfl rfl rfl) ⟨by omega, conf_step hin hkl (fun h => by obtain ⟨h1, h2, h3⟩ := h; first | exact absurd h1 (by assumption) | exact absurd h2 (by assumption) | exact absurd h3 (by assumption)), hp, Lw, hE, hB⟩ (by omega)
   refine aK 7 rfl rfl rfl (by kernel_rfl) i3 hS ?_
   refine aK 8 rfl rfl rfl (by kernel_rfl) i3 hS ?_
   refine aK 9 rfl rfl rfl (by kernel_rfl) i3 hS ?_
   refine aK 10 rfl rfl rfl (by kernel_rfl) i3 hS ?_
   refine aK 11 rfl rfl rfl (by kernel_rfl) i3 hS ?_
   refine aK 12 rfl rfl rfl (by kernel_rfl) i3 hS ?_
   refine a_p 13 tK rfl rfl rfl rfl (by kernel_rfl) i3 hS ?_
   refine a_p 14 tK rfl rfl rfl rfl (by kernel_rfl) i3 hS ?_
   refine aK 15 rfl rfl rfl (by kernel_rfl) i3 hS ?_
   refine aK 16 rfl rfl rfl (by kernel_rfl) i3 hS ?_
   refine aK 17 rfl rfl rfl (by kernel_rfl) i3 hS ?_
   refine aK 18 rfl rfl rfl (by kernel_rfl) i3 hS ?_
   refine aK 19 rfl rfl rfl (by kernel_rfl) i3 hS ?_
   refine aK 20 rfl rfl rfl (by kernel_rfl) i3 hS ?_
   refine aK 21 rfl rfl rfl (by kernel_rfl) i3 hS ?_
   refine aK 22 rfl rfl rfl (by kernel_rfl) i3 hS ?_
   refine aK 23 rfl rfl rfl (by kernel_rfl) i3 hS ?_
   refine aK 24 rfl rfl rfl (by kernel_rfl) i3 hS ?_
   refine aK 25 rfl rfl rfl (by kernel_rfl) i3 hS ?_
   refine a_p 26 tK rfl rfl rfl rfl (by kernel_rfl) i3 hS ?_
   refine a_end (by kernel_rfl) ?_
   refine xS (c_ifF rfl (cK (x_blk (xS (cG (lP 1 tK rfl ?_))))))
   refine lC (o_ai rfl rfl rfl (by omega) rfl rfl ?_)
   refine lP 1 tK rfl (lN ?_)
   have hkl : k < (partsL t).length := by omega
   exact x_round (k + 1) (s3 rfl rfl rfl) ⟨by omega, conf_step hin hkl (fun h => by obtain ⟨h1, h2, h3⟩ := h; first | exact absurd h1 (by assumption) | exact absurd h2 (by assumption) | exact absurd h3 (by assumption)), hp, Lw, hE, hB⟩ (by omega)
  refine c_exit (xE (xE (x_blkE (x_blk (xS (cG (lP 1 tK rfl ?_)))))))
  refine lC (o_ai rfl rfl rfl (by omega) rfl rfl ?_)
  refine lP 1 tK rfl (lN ?_)
  exact x_round (i + 1) (s2 rfl rfl) ⟨by omega, conf_row hout hil (fun b y hb hy => hin b y (by omega) hy), hp, Lw, hE, hB⟩ (by omega)
 refine c_exit (xE (xE (x_blkE (xS (q0 (lP 1 tK rfl (q1 (cR (x1_ rfl rfl ?_)))))))))
 exact ⟨by rw [once_yes (fun a b x y hx hy => hout a b x y (by have := (List.getElem?_eq_some_iff.1 hx).1; omega) hx hy)], hE⟩
theorem refRight_spec (t : Ty) (M : Nat → Prop) (w : World) (v : Value) (ht : Rep.R M w v t) (Lw : Low M w) (hsz : psz t ≤ 2000000) :
  Calls Try.prog 17 #[v] w (Ret fun r w' => r = .bool (rightB t) ∧ Ext w w') := by
 have hE := Below.refl w.heap.size w
 have hB := lR w.heap.size
 obtain ⟨kv, rfl, op, nm, n64, hk⟩ := tO ht
 refine cN (n := 9) Try.func17 rfl rfl rfl ?_
 refine q0 ?_
 refine lC (o_box rfl rfl rfl ?_)
 intro b1 w1 hb_b1 ew1 h1
 replace h1 : Box _ b1 25 [.int .u8 t.op, .string t.name, .int .i64 t.n, kv] := h1
 replace h1 := h1.at (nO Lw hb_b1)
 replace hE := ew1.bl hE hB
 replace ht := Rep.Y ht ew1
 replace hk := hk.Y ew1
 replace Lw := Lw.Y ew1
 replace hB := ew1.z hB
 refine lP 1 tK rfl (q1 (q0 ?_))
 refine lC (oL tK (fun j v hv => h1.cell j v hv) rfl rfl rfl rfl rfl rfl ?_)
 refine lC (oK fo65 rfl rfl rfl (shape_spec t 116 M _ _ ht Lw) ?_)
 rintro _ w2 ⟨rfl, ew2⟩
 replace hE := ew2.bl hE hB
 replace ht := Rep.Y ht ew2
 replace hk := hk.Y ew2
 replace h1 := h1.Y ew2
 replace Lw := Lw.Y ew2
 replace hB := ew2.z hB
 refine lP 1 tK rfl ?_
 refine l_split 5 _ rfl (fun c1 => ?_) (fun c1 => ?_)
 ·refine lC (oL tK (fun j v hv => h1.cell j v hv) rfl rfl rfl rfl rfl rfl ?_)
  refine lC (oK fo66 rfl rfl rfl (once_spec t M _ _ ht Lw hsz) ?_)
  rintro _ w3 ⟨rfl, ew3⟩
  replace hE := ew3.bl hE hB
  replace ht := Rep.Y ht ew3
  replace hk := hk.Y ew3
  replace h1 := h1.Y ew3
  replace Lw := Lw.Y ew3
  replace hB := ew3.z hB
  refine lP 2 tK rfl (q1 (cR (x1_ rfl rfl ?_)))
  exact ⟨by simp_all [rightB], hE⟩
 refine lP 4 tK rfl (q1 (cR (x1_ rfl rfl ?_)))
 exact ⟨by simp_all [rightB], hE⟩
theorem refRow_spec (t : Ty) (M : Nat → Prop) (w : World) (v : Value) (ht : Rep.R M w v t) (Lw : Low M w) (hsz : psz t ≤ 2000000) :
  Calls Try.prog 19 #[v] w (Ret fun r w' => r = .bool (rowB t) ∧ Ext w w') := by
 have hE := Below.refl w.heap.size w
 have hB := lR w.heap.size
 obtain ⟨kv, rfl, op, nm, n64, hk⟩ := tO ht
 refine cN (n := 9) Try.func19 rfl rfl rfl ?_
 refine q0 ?_
 refine lC (o_box rfl rfl rfl ?_)
 intro b1 w1 hb_b1 ew1 h1
 replace h1 : Box _ b1 25 [.int .u8 t.op, .string t.name, .int .i64 t.n, kv] := h1
 replace h1 := h1.at (nO Lw hb_b1)
 replace hE := ew1.bl hE hB
 replace ht := Rep.Y ht ew1
 replace hk := hk.Y ew1
 replace Lw := Lw.Y ew1
 replace hB := ew1.z hB
 refine lP 1 tK rfl (q1 (q0 ?_))
 refine lC (oL tK (fun j v hv => h1.cell j v hv) rfl rfl rfl rfl rfl rfl ?_)
 refine lC (oK fo65 rfl rfl rfl (shape_spec t 114 M _ _ ht Lw) ?_)
 rintro _ w2 ⟨rfl, ew2⟩
 replace hE := ew2.bl hE hB
 replace ht := Rep.Y ht ew2
 replace hk := hk.Y ew2
 replace h1 := h1.Y ew2
 replace Lw := Lw.Y ew2
 replace hB := ew2.z hB
 refine lP 1 tK rfl ?_
 refine l_split 5 _ rfl (fun c1 => ?_) (fun c1 => ?_)
 ·refine lC (oL tK (fun j v hv => h1.cell j v hv) rfl rfl rfl rfl rfl rfl ?_)
  refine lC (oK fo66 rfl rfl rfl (once_spec t M _ _ ht Lw hsz) ?_)
  rintro _ w3 ⟨rfl, ew3⟩
  replace hE := ew3.bl hE hB
  replace ht := Rep.Y ht ew3
  replace hk := hk.Y ew3
  replace h1 := h1.Y ew3
  replace Lw := Lw.Y ew3
  replace hB := ew3.z hB
  refine lP 2 tK rfl (q1 (cR (x1_ rfl rfl ?_)))
  exact ⟨by simp_all [rowB], hE⟩
 refine lP 4 tK rfl (q1 (cR (x1_ rfl rfl ?_)))
 exact ⟨by simp_all [rowB], hE⟩
theorem many_spec (t : Ty) (M : Nat → Prop) (w : World) (v : Value) (ht : Rep.R M w v t) (Lw : Low M w) (hsz : psz t ≤ 2000000) :
  Calls Try.prog 15 #[v] w (Ret fun r w' => r = .bool (decide (400 < (psz t : Int))) ∧ Ext w w') := by
 have hE := Below.refl w.heap.size w
 have hB := lR w.heap.size
 obtain ⟨kv, rfl, op, nm, n64, hk⟩ := tO ht
 refine cN (n := 7) Try.func15 rfl rfl rfl ?_
 refine q0 ?_
 refine lC (o_box rfl rfl rfl ?_)
 intro b1 w1 hb_b1 ew1 h1
 replace h1 : Box _ b1 25 [.int .u8 t.op, .string t.name, .int .i64 t.n, kv] := h1
 replace h1 := h1.at (nO Lw hb_b1)
 replace hE := ew1.bl hE hB
 replace ht := Rep.Y ht ew1
 replace hk := hk.Y ew1
 replace Lw := Lw.Y ew1
 replace hB := ew1.z hB
 refine lP 1 tK rfl (q1 (q0 ?_))
 refine lC (oL tK (fun j v hv => h1.cell j v hv) rfl rfl rfl rfl rfl rfl ?_)
 refine lC (oK fo21 rfl rfl rfl (parts_spec t M _ _ ht Lw hsz) ?_)
 rintro vhr1 w2 ⟨hr1, ew2⟩
 replace hE := ew2.bl hE hB
 replace ht := Rep.Y ht ew2
 replace hk := hk.Y ew2
 replace h1 := h1.Y ew2
 replace Lw := Lw.Y ew2
 replace hB := ew2.z hB
 refine lC (o_len tK hr1 rfl rfl rfl rfl rfl ?_)
 refine lP 2 tK rfl (q1 (cR (x1_ rfl rfl ?_)))
 exact ⟨rfl, hE⟩
theorem int_val (M : Nat → Prop) (w : World) (hlow0 : Low M w) :
  Calls Try.prog 33 #[] w (Ret fun r w' => r = .agg #[.int .u8 1, .string ⟨#[]⟩, .int .i64 0, .slice none 0 0] ∧ Ext w w') := by
 have Lw := hlow0
 have hB := lR w.heap.size
 have hE := Below.refl w.heap.size w
 have hsub : ∀ b, M b → M b := fun _ h => h
 refine cN (n := 2) Try.func33 rfl rfl rfl ?_
 refine q0 ?_
 refine lC (o_new tK rfl rfl rfl ?_)
 intro b0 w1 qb0 ew1 hb0
 have sw1 := Stp.add ew1 Lw hB (lQ qb0.symm) hb0.lt
 have h0 : MB w.heap.size (Rw.Add M b0) w1 b0 25 [.int .u8 0, .string ⟨#[]⟩, .int .i64 0, .slice none 0 0] := MB.mk' hb0 qb0 hB
 replace hE := hE.trans sw1.below
 replace hsub := sw1.sb hsub
 replace Lw := sw1.low
 replace hB := sw1.z hB
 refine q1 (q0 ?_)
 refine lC (o_build (cells := [.int .u8 1, .string ⟨#[]⟩, .int .i64 0, .slice none 0 0]) bd25 rfl rfl rfl rfl rfl ?_)
 refine lC (o_st tK h0.box rfl rfl rfl rfl (by intro u hu; simp [Value.cells] at hu; rcases hu with rfl | rfl | rfl | rfl <;> rfl) rfl rfl ?_)
 intro w2 hw2 qw2 bew2
 have uw2 : UpdB _ _ _ := ⟨qw2, bew2⟩
 have sw2 := uw2.sp h0.inM Lw h0.ge
 have frw2 := qw2.2
 replace hE := hE.trans sw2.below
 replace hsub := sw2.sb hsub
 replace Lw := sw2.low
 replace hB := sw2.z hB
 replace h0 : MB w.heap.size _ w2 b0 _ [.int .u8 1, .string ⟨#[]⟩, .int .i64 0, .slice none 0 0] := ⟨hw2, h0.inM, h0.ge⟩
 refine q1 (cR ?_)
 refine x_ret1s tK (fun j v hv => h0.cell j v hv) rfl rfl rfl rfl rfl ?_
 exact ⟨rfl, hE⟩
theorem int_spec (M : Nat → Prop) (w : World) (hlow0 : Low M w) :
  Calls Try.prog 33 #[] w (Ret fun r w' => Rep.R M w' r (Ty.mk 1 ⟨#[]⟩ 0 []) ∧ Ext w w') :=
 (int_val M w hlow0).mono (Ret.mono fun r w' ⟨h, e⟩ => ⟨by rw [h]; exact ty_mk (by decide) (by decide) ⟨by decide, by decide⟩ sl_nil, e⟩)
theorem bool_val (M : Nat → Prop) (w : World) (hlow0 : Low M w) :
  Calls Try.prog 34 #[] w (Ret fun r w' => r = .agg #[.int .u8 2, .string ⟨#[]⟩, .int .i64 0, .slice none 0 0] ∧ Ext w w') := by
 have Lw := hlow0
 have hB := lR w.heap.size
 have hE := Below.refl w.heap.size w
 have hsub : ∀ b, M b → M b := fun _ h => h
 refine cN (n := 2) Try.func34 rfl rfl rfl ?_
 refine q0 ?_
 refine lC (o_new tK rfl rfl rfl ?_)
 intro b0 w1 qb0 ew1 hb0
 have sw1 := Stp.add ew1 Lw hB (lQ qb0.symm) hb0.lt
 have h0 : MB w.heap.size (Rw.Add M b0) w1 b0 25 [.int .u8 0, .string ⟨#[]⟩, .int .i64 0, .slice none 0 0] := MB.mk' hb0 qb0 hB
 replace hE := hE.trans sw1.below
 replace hsub := sw1.sb hsub
 replace Lw := sw1.low
 replace hB := sw1.z hB
 refine q1 (q0 ?_)
 refine lC (o_build (cells := [.int .u8 2, .string ⟨#[]⟩, .int .i64 0, .slice none 0 0]) bd25 rfl rfl rfl rfl rfl ?_)
 refine lC (o_st tK h0.box rfl rfl rfl rfl (by intro u hu; simp [Value.cells] at hu; rcases hu with rfl | rfl | rfl | rfl <;> rfl) rfl rfl ?_)
 intro w2 hw2 qw2 bew2
 have uw2 : UpdB _ _ _ := ⟨qw2, bew2⟩
 have sw2 := uw2.sp h0.inM Lw h0.ge
 have frw2 := qw2.2
 replace hE := hE.trans sw2.below
 replace hsub := sw2.sb hsub
 replace Lw := sw2.low
 replace hB := sw2.z hB
 replace h0 : MB w.heap.size _ w2 b0 _ [.int .u8 2, .string ⟨#[]⟩, .int .i64 0, .slice none 0 0] := ⟨hw2, h0.inM, h0.ge⟩
 refine q1 (cR ?_)
 refine x_ret1s tK (fun j v hv => h0.cell j v hv) rfl rfl rfl rfl rfl ?_
 exact ⟨rfl, hE⟩
theorem bool_spec (M : Nat → Prop) (w : World) (hlow0 : Low M w) :
  Calls Try.prog 34 #[] w (Ret fun r w' => Rep.R M w' r (Ty.mk 2 ⟨#[]⟩ 0 []) ∧ Ext w w') :=
 (bool_val M w hlow0).mono (Ret.mono fun r w' ⟨h, e⟩ => ⟨by rw [h]; exact ty_mk (by decide) (by decide) ⟨by decide, by decide⟩ sl_nil, e⟩)
theorem copied_own : ∀ (t : Ty) (M : Nat → Prop) (w : World) (v : Value), Rep.R M w v t → Low M w → psz t ≤ 2000000 → Calls Try.prog 67 #[v] w (Ret fun r w' => OTy 25 w.heap.size w' t r (Plus NoM w w') ∧ Ext w w') := by
 refine Ty.ind fun t ih => ?_
 intro M w v ht hlow0 hsz
 have Lw := hlow0
 have hB := lR w.heap.size
 have hE := Below.refl w.heap.size w
 have hsub : ∀ b, M b → M b := fun _ h => h
 obtain ⟨kv, rfl, op, nm, n64, hk⟩ := tO ht
 have hps := psz_eq t
 have hkl := len_psz t.kids
 refine cN (n := 22) Try.func67 rfl rfl rfl ?_
 refine q0 ?_
 refine lC (o_box rfl rfl rfl ?_)
 intro b1 w1 qb1 ew1 hb1
 have sw1 := Stp.add ew1 Lw hB (lQ qb1.symm) hb1.lt
 have h1 : MB w.heap.size (Rw.Add M b1) w1 b1 25 [.int .u8 t.op, .string t.name, .int .i64 t.n, kv] := MB.mk' hb1 qb1 hB
 replace hE := hE.trans sw1.below
 replace ht := Rep.sp ht sw1
 replace hk := hk.sp sw1
 replace hsub := sw1.sb hsub
 replace Lw := sw1.low
 replace hB := sw1.z hB
 refine lC (o_new tK rfl rfl rfl ?_)
 intro b2 w2 qb2 ew2 hb2
 have ne_h1_h2 : b1 ≠ b2 := by have := h1.lt; omega
 have sw2 := Stp.add ew2 Lw hB (lQ qb2.symm) hb2.lt
 have h2 : MB w.heap.size (Rw.Add (Rw.Add M b1) b2) w2 b2 25 [.int .u8 0, .string ⟨#[]⟩, .int .i64 0, .slice none 0 0] := MB.mk' hb2 qb2 hB
 replace h1 := h1.sp sw2 (ew2.block b1 h1.lt)
 replace hE := hE.trans sw2.below
 replace ht := Rep.sp ht sw2
 replace hk := hk.sp sw2
 replace hsub := sw2.sb hsub
 replace Lw := sw2.low
 replace hB := sw2.z hB
 refine q1 (q0 (lP 1 tK rfl (q1 (cS (q0 (lP 1 tK rfl ?_))))))
 refine lC (oD tK (h1.cell 3 _ rfl) rfl rfl rfl rfl rfl ?_)
 refine lC (o_len tK hk rfl rfl rfl rfl rfl ?_)
 refine lP 1 tK rfl (q1 (cB ?_))
 have d_ho_h1 : ∀ x, (.slice none 0 0 : Value).ownBlock = some x → x ≠ b1 := fun x hx => by simp [Value.ownBlock] at hx
 have d_ho_h2 : ∀ x, (.slice none 0 0 : Value).ownBlock = some x → x ≠ b2 := fun x hx => by simp [Value.ownBlock] at hx
 have d_hO_h1 : ∀ x, NoM x → x ≠ b1 := fun _ h => h.elim
 have d_hO_h2 : ∀ x, NoM x → x ≠ b2 := fun _ h => h.elim
 have dd_ho_hO : ∀ x y, (.slice none 0 0 : Value).ownBlock = some x → NoM y → x ≠ y := fun _ _ _ h => h.elim
 refine c_loop5 (X := Nat) (Y := Value) (Z := Nat → Prop) (U := List (VN 3)) (V := Nat → Prop) (fun i v M1 us F => [(1, .pointer (some ⟨b1, 0, none⟩)), (2, .pointer (some ⟨b2, 0, none⟩)), (3, v), (7, kv), (8, .int .i64 (t.kids.length : Int)), (9, .int .i64 (i : Nat))]) (fun i v M1 us F w' => i ≤ t.kids.length ∧ OwnSl 25 w.heap.size M1 w' v us ∧ OTs 25 w.heap.size w' us (t.kids.take i) F ∧ MB w.heap.size M1 w' b1 25 [.int .u8 t.op, .string t.name, .int .i64 t.n, kv] ∧ MB w.heap.size M1 w' b2 25 [.int .u8 0, .string ⟨#[]⟩, .int .i64 0, .slice none 0 0] ∧ (∀ x, (v : Value).ownBlock = some x → x ≠ b1) ∧ (∀ x, (v : Value).ownBlock = some x → x ≠ b2) ∧ (∀ x, F x → x ≠ b1) ∧ (∀ x, F x → x ≠ b2) ∧ (∀ x y, (v : Value).ownBlock = some x → F y → x ≠ y) ∧ Sl M1 w' kv t.kids ∧ Low M1 w' ∧ (∀ b, M b → M1 b) ∧ Below w.heap.size w w' ∧ w.heap.size ≤ w'.heap.size) (fun i v M1 us F => t.kids.length - i) (0) (.slice none 0 0) ((Rw.Add (Rw.Add M b1) b2)) ([]) (NoM) (s6 rfl rfl rfl rfl rfl rfl) ?_ ?_
 ·exact ⟨Nat.zero_le _, own_nil, ots_nil (fun _ h => h.elim), h1, h2, d_ho_h1, d_ho_h2, d_hO_h1, d_hO_h2, dd_ho_hO, hk, Lw, hsub, hE, hB⟩
 rintro i v M1 us F w3 ⟨hi, ho, hO, h1, h2, d_ho_h1, d_ho_h2, d_hO_h1, d_hO_h2, dd_ho_hO, hk, Lw, hsub, hE, hB⟩
 have hul := hO.len
 rw [List.length_take] at hul
 refine q0 (lP 1 tK rfl (q1 (cS ?_)))
 refine cP _ rfl (fun c1 => ?_) (fun c1 => ?_)
 ·refine cK (xS (cS (cB (q0 ?_))))
  have hik : i < t.kids.length := by omega
  have hp1 := psz_get hik
  refine lC (o_ixS tK hk (gE hik) rfl rfl rfl rfl rfl rfl rfl rfl rfl ?_)
  intro ebx eox eux hyx hX
  obtain ⟨kvx, rfl, opx, nmx, n64x, hkx⟩ := tO hyx
  replace hX : At M1 w3 ebx eox [.int .u8 t.kids[i].op, .string t.kids[i].name, .int .i64 t.kids[i].n, kvx] := hX
  refine lC (oL tK (fun j v hv => hX.cell j v hv) rfl rfl rfl rfl rfl rfl ?_)
  refine lC (o_new tK rfl rfl rfl ?_)
  intro b5 w4 qb5 ew4 hb5
  have nb5 := nO Lw qb5
  refine lC (o_st tK hb5 rfl rfl rfl rfl (Rep.one hyx) rfl rfl ?_)
  intro w5 h5 uw5 bew5
  have ew5 : Ext w3 w5 := ew4.trans (bew5 _ (lQ qb5.symm))
  replace ho := ho.Y Lw hB ew5
  replace hO := hO.Y Lw hB ew5
  replace h1 := h1.Y Lw hB ew5
  replace h2 := h2.Y Lw hB ew5
  replace hE := ew5.bl hE hB
  replace hk := hk.Y ew5
  replace hyx := Rep.Y hyx ew5
  replace hkx := hkx.Y ew5
  replace hX := hX.Y ew5
  replace Lw := Lw.Y ew5
  replace hB := ew5.z hB
  replace h5 : Box w5 b5 25 [.int .u8 t.kids[i].op, .string t.kids[i].name, .int .i64 t.kids[i].n, kvx] := h5
  replace h5 := h5.at nb5
  refine q1 (cG (lP 1 tK rfl ?_))
  refine lC (oL tK (fun j v hv => h5.cell j v hv) rfl rfl rfl rfl rfl rfl ?_)
  have l_h1 := h1.lt
  have l_h2 := h2.lt
  have l_ho := ho.lt
  have l_hO := hO.lt
  have hB0 := hB
  refine lC (oK fo67 rfl rfl rfl (ih _ (gM hik) _ _ _ hyx Lw (by omega)) ?_)
  rintro vr w6 ⟨hr, ew6⟩
  replace hr := hr.ge hB0
  have hGl : ∀ c, Plus NoM w5 w6 c → w5.heap.size ≤ c := fun c h => h.elim (fun h => h.elim) (fun h => h.1)
  replace ho := ho.Y Lw hB ew6
  replace hO := hO.Y Lw hB ew6
  replace h1 := h1.Y Lw hB ew6
  replace h2 := h2.Y Lw hB ew6
  replace hE := ew6.bl hE hB
  replace hk := hk.Y ew6
  replace hyx := Rep.Y hyx ew6
  replace hkx := hkx.Y ew6
  replace hX := hX.Y ew6
  replace h5 := h5.Y ew6
  replace Lw := Lw.Y ew6
  replace hB := ew6.z hB
  generalize Plus NoM w5 w6 = G at hr hGl
  have d_hr_h1 : ∀ x, G x → x ≠ b1 := fun x hx => by have := hGl x hx; omega
  have d_hr_h2 : ∀ x, G x → x ≠ b2 := fun x hx => by have := hGl x hx; omega
  have dd_ho_hr : ∀ x y, (v : Value).ownBlock = some x → G y → x ≠ y := fun x y hx hy => by have := hGl y hy; have := (l_ho x hx).2; omega
  have dd_hr_hO : ∀ c, G c → ¬ F c := fun c hg hf => by have := hGl c hg; have := (l_hO c hf).2; omega
  refine lC (o_bs tK rfl rfl rfl rfl rfl rfl rfl (sz1 hr.size) rfl rfl rfl ?_)
  intro bw7 w7 qbw7 ew7 hbw7
  have nbw7 := nO Lw qbw7
  replace ho := ho.Y Lw hB ew7
  replace hO := hO.Y Lw hB ew7
  replace h1 := h1.Y Lw hB ew7
  replace h2 := h2.Y Lw hB ew7
  replace hr := hr.Y Lw hB ew7
  replace hE := ew7.bl hE hB
  replace hk := hk.Y ew7
  replace hyx := Rep.Y hyx ew7
  replace hkx := hkx.Y ew7
  replace hX := hX.Y ew7
  replace h5 := h5.Y ew7
  replace Lw := Lw.Y ew7
  replace hB := ew7.z hB
  refine lC (o_app1 tK ho hbw7 nbw7 hr.vn Lw hB rfl rfl rfl rfl rfl rfl rfl (by omega) (by show (_ + _) * 56 ≤ _; omega) rfl rfl ?_)
  intro vw8 w8 Mw8 hw8 sw8 frw8 blw8
  have zd_ho_h1 := d_ho_h1
  replace d_ho_h1 : ∀ x, (vw8 : Value).ownBlock = some x → x ≠ b1 := fun x hx => (blw8 x hx).elim (d_ho_h1 x) (fun h e => by have := h1.lt; omega)
  have zd_ho_h2 := d_ho_h2
  replace d_ho_h2 : ∀ x, (vw8 : Value).ownBlock = some x → x ≠ b2 := fun x hx => (blw8 x hx).elim (d_ho_h2 x) (fun h e => by have := h2.lt; omega)
  have zdd_ho_hO := dd_ho_hO
  replace dd_ho_hO : ∀ x y, (vw8 : Value).ownBlock = some x → F y → x ≠ y := fun x y hx hy => (blw8 x hx).elim (fun h => dd_ho_hO x y h hy) (fun h e => by have := (hO.lt y hy).2; omega)
  have zdd_ho_hr := dd_ho_hr
  replace dd_ho_hr : ∀ x y, (vw8 : Value).ownBlock = some x → G y → x ≠ y := fun x y hx hy => (blw8 x hx).elim (fun h => dd_ho_hr x y h hy) (fun h e => by have := (hr.lt y hy).2; omega)
  replace hO := hO.sp sw8 (fun x hx => frw8 x (hO.lt x hx).2 (fun e => zdd_ho_hO x x e.symm hx rfl))
  replace h1 := h1.sp sw8 (frw8 b1 h1.lt (fun e => zd_ho_h1 _ e.symm rfl))
  replace h2 := h2.sp sw8 (frw8 b2 h2.lt (fun e => zd_ho_h2 _ e.symm rfl))
  replace hr := hr.sp sw8 (fun x hx => frw8 x (hr.lt x hx).2 (fun e => zdd_ho_hr x x e.symm hx rfl))
  replace hE := hE.trans sw8.below
  replace hk := hk.sp sw8
  replace hyx := Rep.sp hyx sw8
  replace hkx := hkx.sp sw8
  replace hX := hX.sp sw8
  replace h5 := h5.sp sw8
  replace hsub := sw8.sb hsub
  replace Lw := sw8.low
  replace hB := sw8.z hB
  replace ho := hw8
  clear hw8
  refine lP 1 tK rfl (q2 (xS (cG ?_)))
  refine lC (o_ai rfl rfl rfl (by omega) rfl rfl ?_)
  refine lP 1 tK rfl (lN ?_)
  have hO2 := hO.app hr dd_hr_hO
  exact x_round5 (i + 1) (vw8) (Mw8) (us ++ [⟨vr⟩]) (fun c => F c ∨ G c) (s6 rfl rfl rfl rfl rfl rfl) ⟨by omega, ho, by rw [List.take_succ_eq_append_getElem hik]; exact hO2, h1, h2, d_ho_h1, d_ho_h2, (fun x hx => hx.elim (d_hO_h1 x) (d_hr_h1 x)), (fun x hx => hx.elim (d_hO_h2 x) (d_hr_h2 x)), (fun x y hx hy => hy.elim (dd_ho_hO x y hx) (dd_ho_hr x y hx)), hk, Lw, hsub, hE, hB⟩ (by omega)
 refine c_exit (xE (xE (x_blkE (xS (q0 (lP 2 tK rfl ?_))))))
 obtain rfl : i = t.kids.length := by omega
 rw [List.take_of_length_le (lR _)] at hO
 obtain ⟨av, cv, rfl, hcv⟩ := ho.val
 refine lC (o_st tK h1.box rfl rfl rfl rfl (by simp [Value.cells, Value.oneCell']) rfl rfl ?_)
 intro w9 hw9 qw9 bew9
 have uw9 : UpdB _ _ _ := ⟨qw9, bew9⟩
 have sw9 := uw9.sp h1.inM Lw h1.ge
 have frw9 := qw9.2
 replace ho := ho.sp sw9 (fun x hx => frw9 x (ho.lt x hx).2 (d_ho_h1 x hx))
 replace hO := hO.sp sw9 (fun x hx => frw9 x (hO.lt x hx).2 (d_hO_h1 x hx))
 replace h2 := h2.sp sw9 (frw9 b2 h2.lt ne_h1_h2.symm)
 replace hE := hE.trans sw9.below
 replace hk := hk.sp sw9
 replace hsub := sw9.sb hsub
 replace Lw := sw9.low
 replace hB := sw9.z hB
 replace h1 : MB w.heap.size _ w9 b1 _ [.int .u8 t.op, .string t.name, .int .i64 t.n, .slice av us.length cv] := ⟨hw9, h1.inM, h1.ge⟩
 refine q1 (q0 ?_)
 refine lC (oL tK (fun j v hv => h1.cell j v hv) rfl rfl rfl rfl rfl rfl ?_)
 refine lC (o_st tK h2.box rfl rfl rfl rfl (by intro u hu; simp [Value.cells] at hu; rcases hu with rfl | rfl | rfl | rfl <;> rfl) rfl rfl ?_)
 intro w10 hw10 qw10 bew10
 have uw10 : UpdB _ _ _ := ⟨qw10, bew10⟩
 have sw10 := uw10.sp h2.inM Lw h2.ge
 have frw10 := qw10.2
 replace ho := ho.sp sw10 (fun x hx => frw10 x (ho.lt x hx).2 (d_ho_h2 x hx))
 replace hO := hO.sp sw10 (fun x hx => frw10 x (hO.lt x hx).2 (d_hO_h2 x hx))
 replace h1 := h1.sp sw10 (frw10 b1 h1.lt ne_h1_h2)
 replace hE := hE.trans sw10.below
 replace hk := hk.sp sw10
 replace hsub := sw10.sb hsub
 replace Lw := sw10.low
 replace hB := sw10.z hB
 replace h2 : MB w.heap.size _ w10 b2 _ [.int .u8 t.op, .string t.name, .int .i64 t.n, .slice av us.length cv] := ⟨hw10, h2.inM, h2.ge⟩
 refine q1 (cR ?_)
 refine x_ret1s tK (fun j v hv => h2.cell j v hv) rfl rfl rfl rfl rfl ?_
 have hfin := oty_fin op nm n64 (by omega) ho hO dd_ho_hO
 rw [← ty_eta] at hfin
 exact ⟨hfin, hE⟩
theorem copied_spec (t : Ty) (M : Nat → Prop) (w : World) (v : Value) (ht : Rep.R M w v t) (Lw : Low M w) (hsz : psz t ≤ 2000000) : Calls Try.prog 67 #[v] w (Ret fun r w' => Rep.R M w' r t ∧ Ext w w') :=
 (copied_own t M w v ht Lw hsz).mono (Ret.mono fun r w' h => ⟨h.1.repNew Lw, h.2⟩)
end Go.Proofs.Ytpoahmeacjggfaa
namespace Rw
abbrev St := List (Int × Bool)
def meetS (s : St) (n : Int) (row : Bool) : Bool × St := ((match getK s n with | none => true | some b => b == row), putK s n row)
def preR (op : Int) (row : Bool) (len : Nat) (name : ByteArray) (n : Int) : Bool := match kidsOf op with
  | none => false
  | some ks => (row == decide (8 ≤ op)) && (decide (len = ks.size) && headOk op name n)
def numB (op : Int) : Bool := decide (op = 7) || decide (op = 10)
def kidRow (op : Int) (i : Nat) : Bool := decide (op = 5) || (decide (op = 6) || (decide (op = 11) && decide ((i : Int) = 1)))
def runR : List (Bool → St → Bool × St) → (Nat → Bool) → Nat → St → Bool × St
  | [], _, _, s => (true, s)
  | f :: fs, g, i, s => bif (f (g i) s).1 then runR fs g (i + 1) (f (g i) s).2 else (false, (f (g i) s).2)
def rightF : Ty → Bool → St → Bool × St
  | .mk op name n l => fun row s => bif preR op row l.length name n then
      (bif (bif numB op then meetS s n row else (true, s)).1 then runR (l.map rightF) (kidRow op) 0 (bif numB op then meetS s n row else (true, s)).2 else (false, (bif numB op then meetS s n row else (true, s)).2)) else (false, s)
theorem rightF_eq (t : Ty) (row : Bool) (s : St) : rightF t row s = bif preR t.op row t.kids.length t.name t.n then
      (bif (bif numB t.op then meetS s t.n row else (true, s)).1 then runR (t.kids.map rightF) (kidRow t.op) 0 (bif numB t.op then meetS s t.n row else (true, s)).2 else (false, (bif numB t.op then meetS s t.n row else (true, s)).2)) else (false, s) := by
  cases t; rw [rightF]; rfl
theorem right_pre_no {t : Ty} {row : Bool} {s : St} (h : preR t.op row t.kids.length t.name t.n = false) : rightF t row s = (false, s) := by rw [rightF_eq, h]; rfl
theorem right_meet_no {t : Ty} {row : Bool} {s : St} (h : preR t.op row t.kids.length t.name t.n = true) (hn : numB t.op = true) (hm : (meetS s t.n row).1 = false) : rightF t row s = (false, (meetS s t.n row).2) := by
  rw [rightF_eq, h, hn]; simp [hm]
theorem right_meet_yes {t : Ty} {row : Bool} {s : St} (h : preR t.op row t.kids.length t.name t.n = true) (hn : numB t.op = true) (hm : (meetS s t.n row).1 = true) : rightF t row s = runR (t.kids.map rightF) (kidRow t.op) 0 (meetS s t.n row).2 := by
  rw [rightF_eq, h, hn]; simp [hm]
theorem right_plain {t : Ty} {row : Bool} {s : St} (h : preR t.op row t.kids.length t.name t.n = true) (hn : numB t.op = false) : rightF t row s = runR (t.kids.map rightF) (kidRow t.op) 0 s := by
  rw [rightF_eq, h, hn]; simp
theorem rS {l : List Ty} {g : Nat → Bool} {i : Nat} {s : St} (hi : i < l.length) : runR ((l.drop i).map rightF) g i s = bif (rightF l[i] (g i) s).1 then runR ((l.drop (i + 1)).map rightF) g (i + 1) (rightF l[i] (g i) s).2 else (false, (rightF l[i] (g i) s).2) := by
  rw [List.drop_eq_getElem_cons hi, List.map_cons, runR]
theorem run_end {l : List Ty} {g : Nat → Bool} {i : Nat} {s : St} (hi : l.length ≤ i) : runR ((l.drop i).map rightF) g i s = (true, s) := by
  rw [List.drop_eq_nil_of_le hi]; rfl
end Rw
namespace Go.Proofs.Ytpoahmeacjggfaa
open Go Rw Go.RowKit
set_option maxRecDepth 4000
theorem meet_spec (M : Nat → Prop) (w : World) (B b : Nat) (l : St) (n : Int) (row : Bool) (hs : OM (κ := Int) (fun x : Bool => Value.bool x) B M w b l) (Lw : Low M w) :
  Calls Try.prog 94 #[.map (some b), .int .i64 n, .bool row] w (Ret fun r w' => r = .bool (meetS l n row).1 ∧ OM (κ := Int) (fun x : Bool => Value.bool x) B M w' b (meetS l n row).2 ∧ UpdB b w w') := by
 have hU := UpdB.refl b w
 have hB : B ≤ w.heap.size := Nat.le_trans hs.ge (Nat.le_of_lt hs.lt)
 refine cN (n := 25) Try.func94 rfl rfl rfl ?_
 refine q0 (lP 1 tK rfl (q1 (q0 (lP 2 tK rfl ?_))))
 refine lC (o_look (z := false) tK hs.map (k := n) rfl rfl rfl rfl ⟨_, Try.underlying3, rfl⟩ rfl rfl rfl rfl ?_)
 refine lP 5 tK rfl (q1 (q0 (lP 3 tK rfl ?_)))
 refine lC (o_mupd tK hs.map (k := n) (v := row) rfl rfl rfl rfl rfl ⟨_, Try.underlying3, rfl⟩ rfl ?_)
 intro w1 hw1 qw1 bew1
 have uw1 : UpdB _ _ _ := ⟨qw1, bew1⟩
 have sw1 := uw1.sp hs.inM Lw hs.ge
 have frw1 := qw1.2
 replace hU := hU.trans uw1
 replace Lw := sw1.low
 replace hB := sw1.z hB
 replace hs : OM _ _ _ w1 _ (putK l n row) := ⟨hw1, hs.inM, hs.ge⟩
 refine q1 (q0 (lP 3 tK rfl ?_))
 refine l_splitB 20 _ rfl (fun c1 => ?_) (fun c1 => ?_)
 ·refine lP 5 tK rfl (q1 (cR (x1_ rfl rfl ?_)))
  refine ⟨?_, hs, hU⟩
  cases hg : getK l n <;> simp_all [meetS]
 refine lP 2 tK rfl ?_
 refine lC (o_beq tK rfl rfl rfl rfl rfl rfl ?_)
 refine lP 2 tK rfl (q1 (cR (x1_ rfl rfl ?_)))
 refine ⟨?_, hs, hU⟩
 cases hg : getK l n <;> simp_all [meetS]
theorem right_spec : ∀ (t : Ty) (row : Bool) (l : St) (M : Nat → Prop) (w : World) (v : Value) (B b : Nat), Rep.R M w v t → OM (κ := Int) (fun x : Bool => Value.bool x) B M w b l → Low M w → Calls Try.prog 64 #[.map (some b), v, .bool row] w (Ret fun r w' => r = .bool (rightF t row l).1 ∧ OM (κ := Int) (fun x : Bool => Value.bool x) B M w' b (rightF t row l).2 ∧ UpdB b w w') := by
 refine Ty.ind fun t ih => ?_
 intro row l M w v B b ht hs Lw
 have hU := UpdB.refl b w
 have hB : B ≤ w.heap.size := Nat.le_trans hs.ge (Nat.le_of_lt hs.lt)
 obtain ⟨kv, rfl, op, nm, n64, hk⟩ := tO ht
 have hlt := hk.lt
 refine cN (n := 113) Try.func64 rfl rfl rfl ?_
 refine q0 ?_
 refine lC (o_box rfl rfl rfl ?_)
 intro b1 w1 hb_b1 ew1 h1
 replace h1 : Box _ b1 25 [.int .u8 t.op, .string t.name, .int .i64 t.n, kv] := h1
 replace h1 := h1.at (nO Lw hb_b1)
 replace hU := hU.trans (UpdB.Y ew1 hs.lt)
 replace hs := hs.Y Lw hB ew1
 replace ht := Rep.Y ht ew1
 replace hk := hk.Y ew1
 replace Lw := Lw.Y ew1
 replace hB := ew1.z hB
 refine lP 1 tK rfl (q1 (q0 (lP 1 tK rfl (q1 (q0 (lP 2 tK rfl (q1 ?_)))))))
 refine c_cut3 (X := Int) (Y := Bool) (Z := Bool) (fun kc nd nb => [(0, .map (some b)), (2, .bool row), (4, .pointer (some ⟨b1, 0, none⟩)), (7, .int .i64 kc), (8, .bool nd), (9, .bool nb)]) (fun kc nd nb w' => w1 = w' ∧ (∃ ks, kidsOf t.op = some ks ∧ (ks.size : Int) = kc) ∧ nd = decide (t.op = 11) ∧ nb = numB t.op) ?_ ?_
 ·refine q0 (lP 1 tK rfl ?_)
  refine lC (oD tK (h1.cell 0 _ rfl) rfl rfl rfl rfl rfl ?_)
  refine q1 (cB (cS (q0 (lP 2 tK rfl (q1 ?_)))))
  refine c_splitP 14 _ rfl (fun c1 => cI rfl ?_) (fun c1 => c_ifF rfl ?_)
  ·refine cK (xS (cI rfl (cK (x_blk ?_))))
   exact x_cut3 (0) (false) (false) (s6 rfl rfl rfl rfl rfl rfl) ⟨rfl, ⟨⟨#[]⟩, by simp [kidsOf, *], rfl⟩, by simp [*], by simp [numB, *]⟩
  refine q0 (lP 2 tK rfl (q1 ?_))
  refine c_splitP 14 _ rfl (fun c2 => cI rfl ?_) (fun c2 => c_ifF rfl ?_)
  ·refine cK (xS (cI rfl (cK (x_blk ?_))))
   exact x_cut3 (0) (false) (false) (s6 rfl rfl rfl rfl rfl rfl) ⟨rfl, ⟨⟨#[]⟩, by simp [kidsOf, *], rfl⟩, by simp [*], by simp [numB, *]⟩
  refine cG (lP 2 tK rfl (q1 ?_))
  refine c_splitP 14 _ rfl (fun c3 => cI rfl ?_) (fun c3 => c_ifF rfl ?_)
  ·refine cK (x_blk ?_)
   exact x_cut3 (0) (false) (false) (s6 rfl rfl rfl rfl rfl rfl) ⟨rfl, ⟨⟨#[]⟩, by simp [kidsOf, *], rfl⟩, by simp [*], by simp [numB, *]⟩
  refine q0 (lP 2 tK rfl (q1 ?_))
  refine cP _ rfl (fun c4 => ?_) (fun c4 => ?_)
  ·refine cG (lP 1 tK rfl (q2 ?_))
   exact x_cut3 (2) (false) (false) (s6 rfl rfl rfl rfl rfl rfl) ⟨rfl, ⟨⟨#[116, 116]⟩, by simp [kidsOf, *], rfl⟩, by simp [*], by simp [numB, *]⟩
  refine cS (q0 (lP 2 tK rfl (q1 ?_)))
  refine c_splitP 20 _ rfl (fun c5 => cI rfl ?_) (fun c5 => c_ifF rfl ?_)
  ·refine cK (xS (cI rfl (cG (lP 1 tK rfl (q2 ?_)))))
   exact x_cut3 (1) (false) (false) (s6 rfl rfl rfl rfl rfl rfl) ⟨rfl, ⟨⟨#[114]⟩, by simp [kidsOf, *], rfl⟩, by simp [*], by simp [numB, *]⟩
  refine cG (lP 2 tK rfl (q1 ?_))
  refine c_splitP 20 _ rfl (fun c6 => cI rfl ?_) (fun c6 => c_ifF rfl ?_)
  ·refine cG (lP 1 tK rfl (q2 ?_))
   exact x_cut3 (1) (false) (false) (s6 rfl rfl rfl rfl rfl rfl) ⟨rfl, ⟨⟨#[114]⟩, by simp [kidsOf, *], rfl⟩, by simp [*], by simp [numB, *]⟩
  refine q0 (lP 2 tK rfl (q1 ?_))
  refine cP _ rfl (fun c7 => ?_) (fun c7 => ?_)
  ·refine cG (lP 1 tK rfl (q2 ?_))
   exact x_cut3 (0) (false) (true) (s6 rfl rfl rfl rfl rfl rfl) ⟨rfl, ⟨⟨#[]⟩, by simp [kidsOf, *], rfl⟩, by simp [*], by simp [numB, *]⟩
  refine cS (q0 (lP 2 tK rfl (q1 ?_)))
  refine c_splitP 25 _ rfl (fun c8 => cI rfl ?_) (fun c8 => c_ifF rfl ?_)
  ·refine cK (xS (cI rfl (cK (x_blk ?_))))
   exact x_cut3 (0) (false) (false) (s6 rfl rfl rfl rfl rfl rfl) ⟨rfl, ⟨⟨#[]⟩, by simp [kidsOf, *], rfl⟩, by simp [*], by simp [numB, *]⟩
  refine cG (lP 2 tK rfl (q1 ?_))
  refine c_splitP 25 _ rfl (fun c9 => cI rfl ?_) (fun c9 => c_ifF rfl ?_)
  ·refine cK (x_blk ?_)
   exact x_cut3 (0) (false) (false) (s6 rfl rfl rfl rfl rfl rfl) ⟨rfl, ⟨⟨#[]⟩, by simp [kidsOf, *], rfl⟩, by simp [*], by simp [numB, *]⟩
  refine q0 (lP 2 tK rfl (q1 ?_))
  refine cP _ rfl (fun c10 => ?_) (fun c10 => ?_)
  ·refine cG (lP 1 tK rfl (q2 ?_))
   exact x_cut3 (0) (false) (true) (s6 rfl rfl rfl rfl rfl rfl) ⟨rfl, ⟨⟨#[]⟩, by simp [kidsOf, *], rfl⟩, by simp [*], by simp [numB, *]⟩
  refine q0 (lP 2 tK rfl (q1 ?_))
  refine cP _ rfl (fun c11 => ?_) (fun c11 => ?_)
  ·refine cG (lP 2 tK rfl (q2 ?_))
   exact x_cut3 (2) (true) (false) (s6 rfl rfl rfl rfl rfl rfl) ⟨rfl, ⟨⟨#[116, 114]⟩, by simp [kidsOf, *], rfl⟩, by simp [*], by simp [numB, *]⟩
  refine q0 (lP 1 tK rfl (q1 (cR (xB (xR (x1_ rfl rfl ?_))))))
  rw [right_pre_no (by rw [preR, show kidsOf t.op = none by simp [kidsOf, *]])]
  exact ⟨rfl, hs, hU⟩
 rintro kc nd nb _ ⟨rfl, ⟨ks, hko, hkc⟩, hnd, hnb⟩
 refine cS (q0 (lP 2 tK rfl ?_))
 refine lC (oD tK (h1.cell 0 _ rfl) rfl rfl rfl rfl rfl ?_)
 refine lP 1 tK rfl ?_
 refine lC (o_bne tK rfl rfl rfl rfl rfl rfl ?_)
 refine lP 1 tK rfl ?_
 refine l_split 37 _ rfl (fun c12 => ?_) (fun c12 => ?_)
 ·refine lP 20 tK rfl (q1 (cI rfl (q0 (lP 1 tK rfl (q1 (cR (xR (x1_ rfl rfl ?_))))))))
  rw [right_pre_no (by clear ih; rw [preR, hko]; unfold headOk; simp_all [numB] <;> omega)]
  exact ⟨rfl, hs, hU⟩
 refine lP 1 tK rfl ?_
 refine lC (oD tK (h1.cell 3 _ rfl) rfl rfl rfl rfl rfl ?_)
 refine lC (o_len tK hk rfl rfl rfl rfl rfl ?_)
 refine lP 4 tK rfl ?_
 refine l_splitN 44 _ rfl (fun c13 => ?_) (fun c13 => ?_)
 ·refine lP 13 tK rfl (q1 (cI rfl (q0 (lP 1 tK rfl (q1 (cR (xR (x1_ rfl rfl ?_))))))))
  rw [right_pre_no (by clear ih; rw [preR, hko]; unfold headOk; simp_all [numB] <;> omega)]
  exact ⟨rfl, hs, hU⟩
 refine lP 1 tK rfl ?_
 refine lC (oD tK (h1.cell 2 _ rfl) rfl rfl rfl rfl rfl ?_)
 refine lP 3 tK rfl ?_
 refine lS 49 _ rfl (fun c14 => ?_) (fun c14 => ?_)
 ·refine lP 8 tK rfl (q1 (cI rfl (q0 (lP 1 tK rfl (q1 (cR (xR (x1_ rfl rfl ?_))))))))
  rw [right_pre_no (by clear ih; rw [preR, hko]; unfold headOk; simp_all [numB] <;> omega)]
  exact ⟨rfl, hs, hU⟩
 refine lP 3 tK rfl ?_
 refine l_splitB 52 _ rfl (fun c15 => ?_) (fun c15 => ?_)
 ·refine lP 1 tK rfl ?_
  refine lC (oD tK (h1.cell 2 _ rfl) rfl rfl rfl rfl rfl ?_)
  refine lP 3 tK rfl (q1 ?_)
  refine c_ifN _ rfl (fun c16 => ?_) (fun c16 => ?_)
  ·refine q0 (lP 1 tK rfl (q1 (cR (xR (x1_ rfl rfl ?_)))))
   rw [right_pre_no (by clear ih; rw [preR, hko]; unfold headOk; simp_all [numB] <;> omega)]
   exact ⟨rfl, hs, hU⟩
  refine cK (xS (cS (q0 (lP 3 tK rfl ?_))))
  refine l_splitB 60 _ rfl (fun c17 => ?_) (fun c17 => ?_)
  ·refine lP 1 tK rfl ?_
   refine lC (oD tK (h1.cell 1 _ rfl) rfl rfl rfl rfl rfl ?_)
   refine lP 3 tK rfl ?_
   refine l_splitN 65 _ rfl (fun c18 => ?_) (fun c18 => ?_)
   ·refine lP 8 tK rfl (q1 (cI rfl (q0 (lP 1 tK rfl (q1 (cR (xR (x1_ rfl rfl ?_))))))))
    rw [right_pre_no (by clear ih; rw [preR, hko]; unfold headOk; simp_all [numB] <;> omega)]
    exact ⟨rfl, hs, hU⟩
   refine lP 2 tK rfl ?_
   refine l_split 67 _ rfl (fun c19 => ?_) (fun c19 => ?_)
   ·refine lP 1 tK rfl ?_
    refine lC (oD tK (h1.cell 1 _ rfl) rfl rfl rfl rfl rfl ?_)
    refine lC (oK fo93 rfl rfl rfl (isWord_spec _ t.name nm) ?_)
    rintro _ _ ⟨rfl, rfl⟩
    refine lP 3 tK rfl (q1 ?_)
    refine c_ifB _ rfl (fun c20 => ?_) (fun c20 => ?_)
    ·refine q0 (lP 1 tK rfl (q1 (cR (xR (x1_ rfl rfl ?_)))))
     rw [right_pre_no (by clear ih; rw [preR, hko]; unfold headOk; simp_all [numB] <;> omega)]
     exact ⟨rfl, hs, hU⟩
    refine cK (xS ?_)
    refine c_cut (X := St) (fun li0 => [(0, .map (some b)), (4, .pointer (some ⟨b1, 0, none⟩))]) (fun li0 w' => runR (t.kids.map rightF) (kidRow t.op) 0 li0 = rightF t row l ∧ OM (κ := Int) (fun x : Bool => Value.bool x) B M w' b li0 ∧ b1 ≠ b ∧ At M w' b1 0 [.int .u8 t.op, .string t.name, .int .i64 t.n, kv] ∧ Sl M w' kv t.kids ∧ Low M w' ∧ UpdB b w w' ∧ B ≤ w'.heap.size) ?_ ?_
    ·refine q0 (lP 2 tK rfl ?_)
     refine l_split 75 _ rfl (fun c21 => ?_) (fun c21 => ?_)
     ·refine lP 2 tK rfl ?_
      refine lC (oD tK (h1.cell 2 _ rfl) rfl rfl rfl rfl rfl ?_)
      refine lP 1 tK rfl ?_
      have hpre : preR t.op row t.kids.length t.name t.n = true := by clear ih; rw [preR, hko]; unfold headOk; simp_all [numB] <;> omega
      refine lC (oK fo94 rfl rfl rfl (meet_spec M _ B b l t.n row hs Lw) ?_)
      rintro _ w3 ⟨rfl, hw3, uw3⟩
      have sw3 := uw3.sp hs.inM Lw hs.ge
      have frw3 := uw3.upd.2
      replace hU := hU.trans uw3
      replace ht := Rep.sp ht sw3
      replace hk := hk.sp sw3
      replace h1 := h1.sp sw3
      replace Lw := sw3.low
      replace hB := sw3.z hB
      replace hs := hw3
      refine lP 2 tK rfl (q1 ?_)
      refine c_ifB _ rfl (fun c22 => ?_) (fun c22 => ?_)
      ·refine q0 (lP 1 tK rfl (q1 (cR (xR (x1_ rfl rfl ?_)))))
       rw [right_meet_no hpre (by clear ih; simp_all) c22]
       exact ⟨rfl, hs, hU⟩
      refine cK ?_
      have hrun := (right_meet_yes (row := row) (s := l) hpre (by clear ih; simp_all) (by clear ih; simp_all)).symm
      exact x_cut ((meetS l t.n row).2) (s2 rfl rfl) ⟨hrun, hs, fun e => h1.nM (e ▸ hs.inM), h1, hk, Lw, hU, hB⟩
     refine lP 7 tK rfl (q1 (c_ifF rfl (cK ?_)))
     have hpre : preR t.op row t.kids.length t.name t.n = true := by clear ih; rw [preR, hko]; unfold headOk; simp_all [numB] <;> omega
     have hrun := (right_plain (row := row) (s := l) hpre (by clear ih; simp_all)).symm
     exact x_cut (l) (s2 rfl rfl) ⟨hrun, hs, fun e => h1.nM (e ▸ hs.inM), h1, hk, Lw, hU, hB⟩
    rintro li0 w2 ⟨hrun, hs, hne, h1, hk, Lw, hU, hB⟩
    refine cS (q0 (lP 1 tK rfl ?_))
    refine lC (oD tK (h1.cell 3 _ rfl) rfl rfl rfl rfl rfl ?_)
    refine lC (o_len tK hk rfl rfl rfl rfl rfl ?_)
    refine lP 1 tK rfl (q1 (cB ?_))
    refine c_loop2 (X := Nat) (Y := St) (fun i li => [(0, .map (some b)), (4, .pointer (some ⟨b1, 0, none⟩)), (84, kv), (85, .int .i64 (t.kids.length : Int)), (86, .int .i64 (i : Nat))]) (fun i li w' => i ≤ t.kids.length ∧ runR ((t.kids.drop i).map rightF) (kidRow t.op) i li = rightF t row l ∧ OM (κ := Int) (fun x : Bool => Value.bool x) B M w' b li ∧ b1 ≠ b ∧ At M w' b1 0 [.int .u8 t.op, .string t.name, .int .i64 t.n, kv] ∧ Sl M w' kv t.kids ∧ Low M w' ∧ UpdB b w w' ∧ B ≤ w'.heap.size) (fun i li => t.kids.length - i) (0) (li0) (s5 rfl rfl rfl rfl rfl) ?_ ?_
    ·exact ⟨Nat.zero_le _, by simpa using hrun, hs, hne, h1, hk, Lw, hU, hB⟩
    rintro i li w4 ⟨hi, hrun, hs, hne, h1, hk, Lw, hU, hB⟩
    refine q0 (lP 1 tK rfl (q1 (cS ?_)))
    refine cP _ rfl (fun c23 => ?_) (fun c23 => ?_)
    ·refine cK (xS (cS (cB (q0 (lP 1 tK rfl ?_)))))
     have hik : i < t.kids.length := by omega
     refine lC (o_ixS tK hk (gE hik) rfl rfl rfl rfl rfl rfl rfl rfl rfl ?_)
     intro ebx eox eux hyx hX
     obtain ⟨kvx, rfl, opx, nmx, n64x, hkx⟩ := tO hyx
     replace hX : At M w4 ebx eox [.int .u8 t.kids[i].op, .string t.kids[i].name, .int .i64 t.kids[i].n, kvx] := hX
     refine lC (oL tK (fun j v hv => hX.cell j v hv) rfl rfl rfl rfl rfl rfl ?_)
     refine lC (o_new tK rfl rfl rfl ?_)
     intro b5 w5 qb5 ew5 hb5
     have nb5 := nO Lw qb5
     refine lP 1 tK rfl ?_
     refine lC (o_st tK hb5 rfl rfl rfl rfl (Rep.one hyx) rfl rfl ?_)
     intro w6 h5 uw6 bew6
     have ew6 : Ext w4 w6 := ew5.trans (bew6 _ (lQ qb5.symm))
     replace hU := hU.trans (UpdB.Y ew6 hs.lt)
     replace hs := hs.Y Lw hB ew6
     replace h1 := h1.Y ew6
     replace hk := hk.Y ew6
     replace hyx := Rep.Y hyx ew6
     replace hkx := hkx.Y ew6
     replace hX := hX.Y ew6
     replace Lw := Lw.Y ew6
     replace hB := ew6.z hB
     replace h5 : Box w6 b5 25 [.int .u8 t.kids[i].op, .string t.kids[i].name, .int .i64 t.kids[i].n, kvx] := h5
     replace h5 := h5.at nb5
     refine q1 (q0 (lP 1 tK rfl ?_))
     refine lC (oL tK (fun j v hv => h5.cell j v hv) rfl rfl rfl rfl rfl rfl ?_)
     refine lP 1 tK rfl ?_
     refine lC (oD tK (h1.cell 0 _ rfl) rfl rfl rfl rfl rfl ?_)
     refine lP 2 tK rfl ?_
     refine lS 96 _ rfl (fun c24 => ?_) (fun c24 => ?_)
     ·refine lP 13 tK rfl ?_
      have hflag : kidRow t.op i = true := by clear ih; simp_all [kidRow]
      refine lC (oK fo64 rfl rfl rfl (ih _ (gM hik) true li M _ _ B b hyx hs Lw) ?_)
      rintro _ w7 ⟨rfl, hw7, uw7⟩
      have sw7 := uw7.sp hs.inM Lw hs.ge
      have frw7 := uw7.upd.2
      replace hU := hU.trans uw7
      replace h1 := h1.sp sw7
      replace hk := hk.sp sw7
      replace hyx := Rep.sp hyx sw7
      replace hkx := hkx.sp sw7
      replace hX := hX.sp sw7
      replace h5 := h5.sp sw7
      replace Lw := sw7.low
      replace hB := sw7.z hB
      replace hs := hw7
      refine lP 1 tK rfl (q1 ?_)
      refine c_ifB _ rfl (fun c25 => ?_) (fun c25 => ?_)
      ·refine q0 (lP 1 tK rfl (q1 (cR (xB (xR (xR (xB (xR (x1_ rfl rfl ?_)))))))))
       rw [rS hik, hflag] at hrun
       simp only [c25, cond_false] at hrun
       rw [← hrun]
       exact ⟨rfl, hs, hU⟩
      refine cK (x_blk (xS (cG ?_)))
      refine lC (o_ai rfl rfl rfl (by omega) rfl rfl ?_)
      refine lP 1 tK rfl (lN ?_)
      exact xN (i + 1) ((rightF t.kids[i] true li).2) (s5 rfl rfl rfl rfl rfl) ⟨by omega, by rw [rS hik, hflag] at hrun; simpa [c25] using hrun, hs, hne, h1, hk, Lw, hU, hB⟩ (by omega)
     refine lP 1 tK rfl ?_
     refine lC (oD tK (h1.cell 0 _ rfl) rfl rfl rfl rfl rfl ?_)
     refine lP 3 tK rfl ?_
     refine lS 101 _ rfl (fun c26 => ?_) (fun c26 => ?_)
     ·refine lP 8 tK rfl ?_
      have hflag : kidRow t.op i = true := by clear ih; simp_all [kidRow]
      refine lC (oK fo64 rfl rfl rfl (ih _ (gM hik) true li M _ _ B b hyx hs Lw) ?_)
      rintro _ w8 ⟨rfl, hw8, uw8⟩
      have sw8 := uw8.sp hs.inM Lw hs.ge
      have frw8 := uw8.upd.2
      replace hU := hU.trans uw8
      replace h1 := h1.sp sw8
      replace hk := hk.sp sw8
      replace hyx := Rep.sp hyx sw8
      replace hkx := hkx.sp sw8
      replace hX := hX.sp sw8
      replace h5 := h5.sp sw8
      replace Lw := sw8.low
      replace hB := sw8.z hB
      replace hs := hw8
      refine lP 1 tK rfl (q1 ?_)
      refine c_ifB _ rfl (fun c27 => ?_) (fun c27 => ?_)
      ·refine q0 (lP 1 tK rfl (q1 (cR (xB (xR (xR (xB (xR (x1_ rfl rfl ?_)))))))))
       rw [rS hik, hflag] at hrun
       simp only [c27, cond_false] at hrun
       rw [← hrun]
       exact ⟨rfl, hs, hU⟩
      refine cK (x_blk (xS (cG ?_)))
      refine lC (o_ai rfl rfl rfl (by omega) rfl rfl ?_)
      refine lP 1 tK rfl (lN ?_)
      exact xN (i + 1) ((rightF t.kids[i] true li).2) (s5 rfl rfl rfl rfl rfl) ⟨by omega, by rw [rS hik, hflag] at hrun; simpa [c27] using hrun, hs, hne, h1, hk, Lw, hU, hB⟩ (by omega)
     refine lP 1 tK rfl ?_
     refine lC (oD tK (h1.cell 0 _ rfl) rfl rfl rfl rfl rfl ?_)
     refine lP 2 tK rfl ?_
     refine lS 105 _ rfl (fun c28 => ?_) (fun c28 => ?_)
     ·refine lP 4 tK rfl ?_
      have hflag : kidRow t.op i = decide ((i : Int) = 1) := by clear ih; simp_all [kidRow]
      refine lC (oK fo64 rfl rfl rfl (ih _ (gM hik) (decide ((i : Int) = 1)) li M _ _ B b hyx hs Lw) ?_)
      rintro _ w9 ⟨rfl, hw9, uw9⟩
      have sw9 := uw9.sp hs.inM Lw hs.ge
      have frw9 := uw9.upd.2
      replace hU := hU.trans uw9
      replace h1 := h1.sp sw9
      replace hk := hk.sp sw9
      replace hyx := Rep.sp hyx sw9
      replace hkx := hkx.sp sw9
      replace hX := hX.sp sw9
      replace h5 := h5.sp sw9
      replace Lw := sw9.low
      replace hB := sw9.z hB
      replace hs := hw9
      refine lP 1 tK rfl (q1 ?_)
      refine c_ifB _ rfl (fun c29 => ?_) (fun c29 => ?_)
      ·refine q0 (lP 1 tK rfl (q1 (cR (xB (xR (xR (xB (xR (x1_ rfl rfl ?_)))))))))
       rw [rS hik, hflag] at hrun
       simp only [c29, cond_false] at hrun
       rw [← hrun]
       exact ⟨rfl, hs, hU⟩
      refine cK (x_blk (xS (cG ?_)))
      refine lC (o_ai rfl rfl rfl (by omega) rfl rfl ?_)
      refine lP 1 tK rfl (lN ?_)
      exact xN (i + 1) ((rightF t.kids[i] (decide ((i : Int) = 1)) li).2) (s5 rfl rfl rfl rfl rfl) ⟨by omega, by rw [rS hik, hflag] at hrun; simpa [c29] using hrun, hs, hne, h1, hk, Lw, hU, hB⟩ (by omega)
     refine lP 4 tK rfl ?_
     have hflag : kidRow t.op i = false := by clear ih; simp_all [kidRow]
     refine lC (oK fo64 rfl rfl rfl (ih _ (gM hik) false li M _ _ B b hyx hs Lw) ?_)
     rintro _ w10 ⟨rfl, hw10, uw10⟩
     have sw10 := uw10.sp hs.inM Lw hs.ge
     have frw10 := uw10.upd.2
     replace hU := hU.trans uw10
     replace h1 := h1.sp sw10
     replace hk := hk.sp sw10
     replace hyx := Rep.sp hyx sw10
     replace hkx := hkx.sp sw10
     replace hX := hX.sp sw10
     replace h5 := h5.sp sw10
     replace Lw := sw10.low
     replace hB := sw10.z hB
     replace hs := hw10
     refine lP 1 tK rfl (q1 ?_)
     refine c_ifB _ rfl (fun c30 => ?_) (fun c30 => ?_)
     ·refine q0 (lP 1 tK rfl (q1 (cR (xB (xR (xR (xB (xR (x1_ rfl rfl ?_)))))))))
      rw [rS hik, hflag] at hrun
      simp only [c30, cond_false] at hrun
      rw [← hrun]
      exact ⟨rfl, hs, hU⟩
     refine cK (x_blk (xS (cG ?_)))
     refine lC (o_ai rfl rfl rfl (by omega) rfl rfl ?_)
     refine lP 1 tK rfl (lN ?_)
     exact xN (i + 1) ((rightF t.kids[i] false li).2) (s5 rfl rfl rfl rfl rfl) ⟨by omega, by rw [rS hik, hflag] at hrun; simpa [c30] using hrun, hs, hne, h1, hk, Lw, hU, hB⟩ (by omega)
    refine c_exit (xE (xE (x_blkE (xS (q0 (lP 1 tK rfl (q1 (cR (x1_ rfl rfl ?_)))))))))
    rw [run_end (by omega)] at hrun
    rw [← hrun]
    exact ⟨rfl, hs, hU⟩
   refine lP 6 tK rfl (q1 (c_ifF rfl (cK (xS ?_))))
   refine c_cut (X := St) (fun li0 => [(0, .map (some b)), (4, .pointer (some ⟨b1, 0, none⟩))]) (fun li0 w' => runR (t.kids.map rightF) (kidRow t.op) 0 li0 = rightF t row l ∧ OM (κ := Int) (fun x : Bool => Value.bool x) B M w' b li0 ∧ b1 ≠ b ∧ At M w' b1 0 [.int .u8 t.op, .string t.name, .int .i64 t.n, kv] ∧ Sl M w' kv t.kids ∧ Low M w' ∧ UpdB b w w' ∧ B ≤ w'.heap.size) ?_ ?_
   ·refine q0 (lP 2 tK rfl ?_)
    refine l_split 75 _ rfl (fun c31 => ?_) (fun c31 => ?_)
    ·refine lP 2 tK rfl ?_
     refine lC (oD tK (h1.cell 2 _ rfl) rfl rfl rfl rfl rfl ?_)
     refine lP 1 tK rfl ?_
     have hpre : preR t.op row t.kids.length t.name t.n = true := by clear ih; rw [preR, hko]; unfold headOk; simp_all [numB] <;> omega
     refine lC (oK fo94 rfl rfl rfl (meet_spec M _ B b l t.n row hs Lw) ?_)
     rintro _ w12 ⟨rfl, hw12, uw12⟩
     have sw12 := uw12.sp hs.inM Lw hs.ge
     have frw12 := uw12.upd.2
     replace hU := hU.trans uw12
     replace ht := Rep.sp ht sw12
     replace hk := hk.sp sw12
     replace h1 := h1.sp sw12
     replace Lw := sw12.low
     replace hB := sw12.z hB
     replace hs := hw12
     refine lP 2 tK rfl (q1 ?_)
     refine c_ifB _ rfl (fun c32 => ?_) (fun c32 => ?_)
     ·refine q0 (lP 1 tK rfl (q1 (cR (xR (x1_ rfl rfl ?_)))))
      rw [right_meet_no hpre (by clear ih; simp_all) c32]
      exact ⟨rfl, hs, hU⟩
     refine cK ?_
     have hrun := (right_meet_yes (row := row) (s := l) hpre (by clear ih; simp_all) (by clear ih; simp_all)).symm
     exact x_cut ((meetS l t.n row).2) (s2 rfl rfl) ⟨hrun, hs, fun e => h1.nM (e ▸ hs.inM), h1, hk, Lw, hU, hB⟩
    refine lP 7 tK rfl (q1 (c_ifF rfl (cK ?_)))
    have hpre : preR t.op row t.kids.length t.name t.n = true := by clear ih; rw [preR, hko]; unfold headOk; simp_all [numB] <;> omega
    have hrun := (right_plain (row := row) (s := l) hpre (by clear ih; simp_all)).symm
    exact x_cut (l) (s2 rfl rfl) ⟨hrun, hs, fun e => h1.nM (e ▸ hs.inM), h1, hk, Lw, hU, hB⟩
   rintro li0 w11 ⟨hrun, hs, hne, h1, hk, Lw, hU, hB⟩
   refine cS (q0 (lP 1 tK rfl ?_))
   refine lC (oD tK (h1.cell 3 _ rfl) rfl rfl rfl rfl rfl ?_)
   refine lC (o_len tK hk rfl rfl rfl rfl rfl ?_)
   refine lP 1 tK rfl (q1 (cB ?_))
   refine c_loop2 (X := Nat) (Y := St) (fun i li => [(0, .map (some b)), (4, .pointer (some ⟨b1, 0, none⟩)), (84, kv), (85, .int .i64 (t.kids.length : Int)), (86, .int .i64 (i : Nat))]) (fun i li w' => i ≤ t.kids.length ∧ runR ((t.kids.drop i).map rightF) (kidRow t.op) i li = rightF t row l ∧ OM (κ := Int) (fun x : Bool => Value.bool x) B M w' b li ∧ b1 ≠ b ∧ At M w' b1 0 [.int .u8 t.op, .string t.name, .int .i64 t.n, kv] ∧ Sl M w' kv t.kids ∧ Low M w' ∧ UpdB b w w' ∧ B ≤ w'.heap.size) (fun i li => t.kids.length - i) (0) (li0) (s5 rfl rfl rfl rfl rfl) ?_ ?_
   ·exact ⟨Nat.zero_le _, by simpa using hrun, hs, hne, h1, hk, Lw, hU, hB⟩
   rintro i li w13 ⟨hi, hrun, hs, hne, h1, hk, Lw, hU, hB⟩
   refine q0 (lP 1 tK rfl (q1 (cS ?_)))
   refine cP _ rfl (fun c33 => ?_) (fun c33 => ?_)
   ·refine cK (xS (cS (cB (q0 (lP 1 tK rfl ?_)))))
    have hik : i < t.kids.length := by omega
    refine lC (o_ixS tK hk (gE hik) rfl rfl rfl rfl rfl rfl rfl rfl rfl ?_)
    intro ebx eox eux hyx hX
    obtain ⟨kvx, rfl, opx, nmx, n64x, hkx⟩ := tO hyx
    replace hX : At M w13 ebx eox [.int .u8 t.kids[i].op, .string t.kids[i].name, .int .i64 t.kids[i].n, kvx] := hX
    refine lC (oL tK (fun j v hv => hX.cell j v hv) rfl rfl rfl rfl rfl rfl ?_)
    refine lC (o_new tK rfl rfl rfl ?_)
    intro b5 w14 qb5 ew14 hb5
    have nb5 := nO Lw qb5
    refine lP 1 tK rfl ?_
    refine lC (o_st tK hb5 rfl rfl rfl rfl (Rep.one hyx) rfl rfl ?_)
    intro w15 h5 uw15 bew15
    have ew15 : Ext w13 w15 := ew14.trans (bew15 _ (lQ qb5.symm))
    replace hU := hU.trans (UpdB.Y ew15 hs.lt)
    replace hs := hs.Y Lw hB ew15
    replace h1 := h1.Y ew15
    replace hk := hk.Y ew15
    replace hyx := Rep.Y hyx ew15
    replace hkx := hkx.Y ew15
    replace hX := hX.Y ew15
    replace Lw := Lw.Y ew15
    replace hB := ew15.z hB
    replace h5 : Box w15 b5 25 [.int .u8 t.kids[i].op, .string t.kids[i].name, .int .i64 t.kids[i].n, kvx] := h5
    replace h5 := h5.at nb5
    refine q1 (q0 (lP 1 tK rfl ?_))
    refine lC (oL tK (fun j v hv => h5.cell j v hv) rfl rfl rfl rfl rfl rfl ?_)
    refine lP 1 tK rfl ?_
    refine lC (oD tK (h1.cell 0 _ rfl) rfl rfl rfl rfl rfl ?_)
    refine lP 2 tK rfl ?_
    refine lS 96 _ rfl (fun c34 => ?_) (fun c34 => ?_)
    ·refine lP 13 tK rfl ?_
     have hflag : kidRow t.op i = true := by clear ih; simp_all [kidRow]
     refine lC (oK fo64 rfl rfl rfl (ih _ (gM hik) true li M _ _ B b hyx hs Lw) ?_)
     rintro _ w16 ⟨rfl, hw16, uw16⟩
     have sw16 := uw16.sp hs.inM Lw hs.ge
     have frw16 := uw16.upd.2
     replace hU := hU.trans uw16
     replace h1 := h1.sp sw16
     replace hk := hk.sp sw16
     replace hyx := Rep.sp hyx sw16
     replace hkx := hkx.sp sw16
     replace hX := hX.sp sw16
     replace h5 := h5.sp sw16
     replace Lw := sw16.low
     replace hB := sw16.z hB
     replace hs := hw16
     refine lP 1 tK rfl (q1 ?_)
     refine c_ifB _ rfl (fun c35 => ?_) (fun c35 => ?_)
     ·refine q0 (lP 1 tK rfl (q1 (cR (xB (xR (xR (xB (xR (x1_ rfl rfl ?_)))))))))
      rw [rS hik, hflag] at hrun
      simp only [c35, cond_false] at hrun
      rw [← hrun]
      exact ⟨rfl, hs, hU⟩
     refine cK (x_blk (xS (cG ?_)))
     refine lC (o_ai rfl rfl rfl (by omega) rfl rfl ?_)
     refine lP 1 tK rfl (lN ?_)
     exact xN (i + 1) ((rightF t.kids[i] true li).2) (s5 rfl rfl rfl rfl rfl) ⟨by omega, by rw [rS hik, hflag] at hrun; simpa [c35] using hrun, hs, hne, h1, hk, Lw, hU, hB⟩ (by omega)
    refine lP 1 tK rfl ?_
    refine lC (oD tK (h1.cell 0 _ rfl) rfl rfl rfl rfl rfl ?_)
    refine lP 3 tK rfl ?_
    refine lS 101 _ rfl (fun c36 => ?_) (fun c36 => ?_)
    ·refine lP 8 tK rfl ?_
     have hflag : kidRow t.op i = true := by clear ih; simp_all [kidRow]
     refine lC (oK fo64 rfl rfl rfl (ih _ (gM hik) true li M _ _ B b hyx hs Lw) ?_)
     rintro _ w17 ⟨rfl, hw17, uw17⟩
     have sw17 := uw17.sp hs.inM Lw hs.ge
     have frw17 := uw17.upd.2
     replace hU := hU.trans uw17
     replace h1 := h1.sp sw17
     replace hk := hk.sp sw17
     replace hyx := Rep.sp hyx sw17
     replace hkx := hkx.sp sw17
     replace hX := hX.sp sw17
     replace h5 := h5.sp sw17
     replace Lw := sw17.low
     replace hB := sw17.z hB
     replace hs := hw17
     refine lP 1 tK rfl (q1 ?_)
     refine c_ifB _ rfl (fun c37 => ?_) (fun c37 => ?_)
     ·refine q0 (lP 1 tK rfl (q1 (cR (xB (xR (xR (xB (xR (x1_ rfl rfl ?_)))))))))
      rw [rS hik, hflag] at hrun
      simp only [c37, cond_false] at hrun
      rw [← hrun]
      exact ⟨rfl, hs, hU⟩
     refine cK (x_blk (xS (cG ?_)))
     refine lC (o_ai rfl rfl rfl (by omega) rfl rfl ?_)
     refine lP 1 tK rfl (lN ?_)
     exact xN (i + 1) ((rightF t.kids[i] true li).2) (s5 rfl rfl rfl rfl rfl) ⟨by omega, by rw [rS hik, hflag] at hrun; simpa [c37] using hrun, hs, hne, h1, hk, Lw, hU, hB⟩ (by omega)
    refine lP 1 tK rfl ?_
    refine lC (oD tK (h1.cell 0 _ rfl) rfl rfl rfl rfl rfl ?_)
    refine lP 2 tK rfl ?_
    refine lS 105 _ rfl (fun c38 => ?_) (fun c38 => ?_)
    ·refine lP 4 tK rfl ?_
     have hflag : kidRow t.op i = decide ((i : Int) = 1) := by clear ih; simp_all [kidRow]
     refine lC (oK fo64 rfl rfl rfl (ih _ (gM hik) (decide ((i : Int) = 1)) li M _ _ B b hyx hs Lw) ?_)
     rintro _ w18 ⟨rfl, hw18, uw18⟩
     have sw18 := uw18.sp hs.inM Lw hs.ge
     have frw18 := uw18.upd.2
     replace hU := hU.trans uw18
     replace h1 := h1.sp sw18
     replace hk := hk.sp sw18
     replace hyx := Rep.sp hyx sw18
     replace hkx := hkx.sp sw18
     replace hX := hX.sp sw18
     replace h5 := h5.sp sw18
     replace Lw := sw18.low
     replace hB := sw18.z hB
     replace hs := hw18
     refine lP 1 tK rfl (q1 ?_)
     refine c_ifB _ rfl (fun c39 => ?_) (fun c39 => ?_)
     ·refine q0 (lP 1 tK rfl (q1 (cR (xB (xR (xR (xB (xR (x1_ rfl rfl ?_)))))))))
      rw [rS hik, hflag] at hrun
      simp only [c39, cond_false] at hrun
      rw [← hrun]
      exact ⟨rfl, hs, hU⟩
     refine cK (x_blk (xS (cG ?_)))
     refine lC (o_ai rfl rfl rfl (by omega) rfl rfl ?_)
     refine lP 1 tK rfl (lN ?_)
     exact xN (i + 1) ((rightF t.kids[i] (decide ((i : Int) = 1)) li).2) (s5 rfl rfl rfl rfl rfl) ⟨by omega, by rw [rS hik, hflag] at hrun; simpa [c39] using hrun, hs, hne, h1, hk, Lw, hU, hB⟩ (by omega)
    refine lP 4 tK rfl ?_
    have hflag : kidRow t.op i = false := by clear ih; simp_all [kidRow]
    refine lC (oK fo64 rfl rfl rfl (ih _ (gM hik) false li M _ _ B b hyx hs Lw) ?_)
    rintro _ w19 ⟨rfl, hw19, uw19⟩
    have sw19 := uw19.sp hs.inM Lw hs.ge
    have frw19 := uw19.upd.2
    replace hU := hU.trans uw19
    replace h1 := h1.sp sw19
    replace hk := hk.sp sw19
    replace hyx := Rep.sp hyx sw19
    replace hkx := hkx.sp sw19
    replace hX := hX.sp sw19
    replace h5 := h5.sp sw19
    replace Lw := sw19.low
    replace hB := sw19.z hB
    replace hs := hw19
    refine lP 1 tK rfl (q1 ?_)
    refine c_ifB _ rfl (fun c40 => ?_) (fun c40 => ?_)
    ·refine q0 (lP 1 tK rfl (q1 (cR (xB (xR (xR (xB (xR (x1_ rfl rfl ?_)))))))))
     rw [rS hik, hflag] at hrun
     simp only [c40, cond_false] at hrun
     rw [← hrun]
     exact ⟨rfl, hs, hU⟩
    refine cK (x_blk (xS (cG ?_)))
    refine lC (o_ai rfl rfl rfl (by omega) rfl rfl ?_)
    refine lP 1 tK rfl (lN ?_)
    exact xN (i + 1) ((rightF t.kids[i] false li).2) (s5 rfl rfl rfl rfl rfl) ⟨by omega, by rw [rS hik, hflag] at hrun; simpa [c40] using hrun, hs, hne, h1, hk, Lw, hU, hB⟩ (by omega)
   refine c_exit (xE (xE (x_blkE (xS (q0 (lP 1 tK rfl (q1 (cR (x1_ rfl rfl ?_)))))))))
   rw [run_end (by omega)] at hrun
   rw [← hrun]
   exact ⟨rfl, hs, hU⟩
  refine lP 7 tK rfl ?_
  refine l_split 67 _ rfl (fun c41 => ?_) (fun c41 => ?_)
  ·refine lP 1 tK rfl ?_
   refine lC (oD tK (h1.cell 1 _ rfl) rfl rfl rfl rfl rfl ?_)
   refine lC (oK fo93 rfl rfl rfl (isWord_spec _ t.name nm) ?_)
   rintro _ _ ⟨rfl, rfl⟩
   refine lP 3 tK rfl (q1 ?_)
   refine c_ifB _ rfl (fun c42 => ?_) (fun c42 => ?_)
   ·refine q0 (lP 1 tK rfl (q1 (cR (xR (x1_ rfl rfl ?_)))))
    rw [right_pre_no (by clear ih; rw [preR, hko]; unfold headOk; simp_all [numB] <;> omega)]
    exact ⟨rfl, hs, hU⟩
   refine cK (xS ?_)
   refine c_cut (X := St) (fun li0 => [(0, .map (some b)), (4, .pointer (some ⟨b1, 0, none⟩))]) (fun li0 w' => runR (t.kids.map rightF) (kidRow t.op) 0 li0 = rightF t row l ∧ OM (κ := Int) (fun x : Bool => Value.bool x) B M w' b li0 ∧ b1 ≠ b ∧ At M w' b1 0 [.int .u8 t.op, .string t.name, .int .i64 t.n, kv] ∧ Sl M w' kv t.kids ∧ Low M w' ∧ UpdB b w w' ∧ B ≤ w'.heap.size) ?_ ?_
   ·refine q0 (lP 2 tK rfl ?_)
    refine l_split 75 _ rfl (fun c43 => ?_) (fun c43 => ?_)
    ·refine lP 2 tK rfl ?_
     refine lC (oD tK (h1.cell 2 _ rfl) rfl rfl rfl rfl rfl ?_)
     refine lP 1 tK rfl ?_
     have hpre : preR t.op row t.kids.length t.name t.n = true := by clear ih; rw [preR, hko]; unfold headOk; simp_all [numB] <;> omega
     refine lC (oK fo94 rfl rfl rfl (meet_spec M _ B b l t.n row hs Lw) ?_)
     rintro _ w21 ⟨rfl, hw21, uw21⟩
     have sw21 := uw21.sp hs.inM Lw hs.ge
     have frw21 := uw21.upd.2
     replace hU := hU.trans uw21
     replace ht := Rep.sp ht sw21
     replace hk := hk.sp sw21
     replace h1 := h1.sp sw21
     replace Lw := sw21.low
     replace hB := sw21.z hB
     replace hs := hw21
     refine lP 2 tK rfl (q1 ?_)
     refine c_ifB _ rfl (fun c44 => ?_) (fun c44 => ?_)
     ·refine q0 (lP 1 tK rfl (q1 (cR (xR (x1_ rfl rfl ?_)))))
      rw [right_meet_no hpre (by clear ih; simp_all) c44]
      exact ⟨rfl, hs, hU⟩
     refine cK ?_
     have hrun := (right_meet_yes (row := row) (s := l) hpre (by clear ih; simp_all) (by clear ih; simp_all)).symm
     exact x_cut ((meetS l t.n row).2) (s2 rfl rfl) ⟨hrun, hs, fun e => h1.nM (e ▸ hs.inM), h1, hk, Lw, hU, hB⟩
    refine lP 7 tK rfl (q1 (c_ifF rfl (cK ?_)))
    have hpre : preR t.op row t.kids.length t.name t.n = true := by clear ih; rw [preR, hko]; unfold headOk; simp_all [numB] <;> omega
    have hrun := (right_plain (row := row) (s := l) hpre (by clear ih; simp_all)).symm
    exact x_cut (l) (s2 rfl rfl) ⟨hrun, hs, fun e => h1.nM (e ▸ hs.inM), h1, hk, Lw, hU, hB⟩
   rintro li0 w20 ⟨hrun, hs, hne, h1, hk, Lw, hU, hB⟩
   refine cS (q0 (lP 1 tK rfl ?_))
   refine lC (oD tK (h1.cell 3 _ rfl) rfl rfl rfl rfl rfl ?_)
   refine lC (o_len tK hk rfl rfl rfl rfl rfl ?_)
   refine lP 1 tK rfl (q1 (cB ?_))
   refine c_loop2 (X := Nat) (Y := St) (fun i li => [(0, .map (some b)), (4, .pointer (some ⟨b1, 0, none⟩)), (84, kv), (85, .int .i64 (t.kids.length : Int)), (86, .int .i64 (i : Nat))]) (fun i li w' => i ≤ t.kids.length ∧ runR ((t.kids.drop i).map rightF) (kidRow t.op) i li = rightF t row l ∧ OM (κ := Int) (fun x : Bool => Value.bool x) B M w' b li ∧ b1 ≠ b ∧ At M w' b1 0 [.int .u8 t.op, .string t.name, .int .i64 t.n, kv] ∧ Sl M w' kv t.kids ∧ Low M w' ∧ UpdB b w w' ∧ B ≤ w'.heap.size) (fun i li => t.kids.length - i) (0) (li0) (s5 rfl rfl rfl rfl rfl) ?_ ?_
   ·exact ⟨Nat.zero_le _, by simpa using hrun, hs, hne, h1, hk, Lw, hU, hB⟩
   rintro i li w22 ⟨hi, hrun, hs, hne, h1, hk, Lw, hU, hB⟩
   refine q0 (lP 1 tK rfl (q1 (cS ?_)))
   refine cP _ rfl (fun c45 => ?_) (fun c45 => ?_)
   ·refine cK (xS (cS (cB (q0 (lP 1 tK rfl ?_)))))
    have hik : i < t.kids.length := by omega
    refine lC (o_ixS tK hk (gE hik) rfl rfl rfl rfl rfl rfl rfl rfl rfl ?_)
    intro ebx eox eux hyx hX
    obtain ⟨kvx, rfl, opx, nmx, n64x, hkx⟩ := tO hyx
    replace hX : At M w22 ebx eox [.int .u8 t.kids[i].op, .string t.kids[i].name, .int .i64 t.kids[i].n, kvx] := hX
    refine lC (oL tK (fun j v hv => hX.cell j v hv) rfl rfl rfl rfl rfl rfl ?_)
    refine lC (o_new tK rfl rfl rfl ?_)
    intro b5 w23 qb5 ew23 hb5
    have nb5 := nO Lw qb5
    refine lP 1 tK rfl ?_
    refine lC (o_st tK hb5 rfl rfl rfl rfl (Rep.one hyx) rfl rfl ?_)
    intro w24 h5 uw24 bew24
    have ew24 : Ext w22 w24 := ew23.trans (bew24 _ (lQ qb5.symm))
    replace hU := hU.trans (UpdB.Y ew24 hs.lt)
    replace hs := hs.Y Lw hB ew24
    replace h1 := h1.Y ew24
    replace hk := hk.Y ew24
    replace hyx := Rep.Y hyx ew24
    replace hkx := hkx.Y ew24
    replace hX := hX.Y ew24
    replace Lw := Lw.Y ew24
    replace hB := ew24.z hB
    replace h5 : Box w24 b5 25 [.int .u8 t.kids[i].op, .string t.kids[i].name, .int .i64 t.kids[i].n, kvx] := h5
    replace h5 := h5.at nb5
    refine q1 (q0 (lP 1 tK rfl ?_))
    refine lC (oL tK (fun j v hv => h5.cell j v hv) rfl rfl rfl rfl rfl rfl ?_)
    refine lP 1 tK rfl ?_
    refine lC (oD tK (h1.cell 0 _ rfl) rfl rfl rfl rfl rfl ?_)
    refine lP 2 tK rfl ?_
    refine lS 96 _ rfl (fun c46 => ?_) (fun c46 => ?_)
    ·refine lP 13 tK rfl ?_
     have hflag : kidRow t.op i = true := by clear ih; simp_all [kidRow]
     refine lC (oK fo64 rfl rfl rfl (ih _ (gM hik) true li M _ _ B b hyx hs Lw) ?_)
     rintro _ w25 ⟨rfl, hw25, uw25⟩
     have sw25 := uw25.sp hs.inM Lw hs.ge
     have frw25 := uw25.upd.2
     replace hU := hU.trans uw25
     replace h1 := h1.sp sw25
     replace hk := hk.sp sw25
     replace hyx := Rep.sp hyx sw25
     replace hkx := hkx.sp sw25
     replace hX := hX.sp sw25
     replace h5 := h5.sp sw25
     replace Lw := sw25.low
     replace hB := sw25.z hB
     replace hs := hw25
     refine lP 1 tK rfl (q1 ?_)
     refine c_ifB _ rfl (fun c47 => ?_) (fun c47 => ?_)
     ·refine q0 (lP 1 tK rfl (q1 (cR (xB (xR (xR (xB (xR (x1_ rfl rfl ?_)))))))))
      rw [rS hik, hflag] at hrun
      simp only [c47, cond_false] at hrun
      rw [← hrun]
      exact ⟨rfl, hs, hU⟩
     refine cK (x_blk (xS (cG ?_)))
     refine lC (o_ai rfl rfl rfl (by omega) rfl rfl ?_)
     refine lP 1 tK rfl (lN ?_)
     exact xN (i + 1) ((rightF t.kids[i] true li).2) (s5 rfl rfl rfl rfl rfl) ⟨by omega, by rw [rS hik, hflag] at hrun; simpa [c47] using hrun, hs, hne, h1, hk, Lw, hU, hB⟩ (by omega)
    refine lP 1 tK rfl ?_
    refine lC (oD tK (h1.cell 0 _ rfl) rfl rfl rfl rfl rfl ?_)
    refine lP 3 tK rfl ?_
    refine lS 101 _ rfl (fun c48 => ?_) (fun c48 => ?_)
    ·refine lP 8 tK rfl ?_
     have hflag : kidRow t.op i = true := by clear ih; simp_all [kidRow]
     refine lC (oK fo64 rfl rfl rfl (ih _ (gM hik) true li M _ _ B b hyx hs Lw) ?_)
     rintro _ w26 ⟨rfl, hw26, uw26⟩
     have sw26 := uw26.sp hs.inM Lw hs.ge
     have frw26 := uw26.upd.2
     replace hU := hU.trans uw26
     replace h1 := h1.sp sw26
     replace hk := hk.sp sw26
     replace hyx := Rep.sp hyx sw26
     replace hkx := hkx.sp sw26
     replace hX := hX.sp sw26
     replace h5 := h5.sp sw26
     replace Lw := sw26.low
     replace hB := sw26.z hB
     replace hs := hw26
     refine lP 1 tK rfl (q1 ?_)
     refine c_ifB _ rfl (fun c49 => ?_) (fun c49 => ?_)
     ·refine q0 (lP 1 tK rfl (q1 (cR (xB (xR (xR (xB (xR (x1_ rfl rfl ?_)))))))))
      rw [rS hik, hflag] at hrun
      simp only [c49, cond_false] at hrun
      rw [← hrun]
      exact ⟨rfl, hs, hU⟩
     refine cK (x_blk (xS (cG ?_)))
     refine lC (o_ai rfl rfl rfl (by omega) rfl rfl ?_)
     refine lP 1 tK rfl (lN ?_)
     exact xN (i + 1) ((rightF t.kids[i] true li).2) (s5 rfl rfl rfl rfl rfl) ⟨by omega, by rw [rS hik, hflag] at hrun; simpa [c49] using hrun, hs, hne, h1, hk, Lw, hU, hB⟩ (by omega)
    refine lP 1 tK rfl ?_
    refine lC (oD tK (h1.cell 0 _ rfl) rfl rfl rfl rfl rfl ?_)
    refine lP 2 tK rfl ?_
    refine lS 105 _ rfl (fun c50 => ?_) (fun c50 => ?_)
    ·refine lP 4 tK rfl ?_
     have hflag : kidRow t.op i = decide ((i : Int) = 1) := by clear ih; simp_all [kidRow]
     refine lC (oK fo64 rfl rfl rfl (ih _ (gM hik) (decide ((i : Int) = 1)) li M _ _ B b hyx hs Lw) ?_)
     rintro _ w27 ⟨rfl, hw27, uw27⟩
     have sw27 := uw27.sp hs.inM Lw hs.ge
     have frw27 := uw27.upd.2
     replace hU := hU.trans uw27
     replace h1 := h1.sp sw27
     replace hk := hk.sp sw27
     replace hyx := Rep.sp hyx sw27
     replace hkx := hkx.sp sw27
     replace hX := hX.sp sw27
     replace h5 := h5.sp sw27
     replace Lw := sw27.low
     replace hB := sw27.z hB
     replace hs := hw27
     refine lP 1 tK rfl (q1 ?_)
     refine c_ifB _ rfl (fun c51 => ?_) (fun c51 => ?_)
     ·refine q0 (lP 1 tK rfl (q1 (cR (xB (xR (xR (xB (xR (x1_ rfl rfl ?_)))))))))
      rw [rS hik, hflag] at hrun
      simp only [c51, cond_false] at hrun
      rw [← hrun]
      exact ⟨rfl, hs, hU⟩
     refine cK (x_blk (xS (cG ?_)))
     refine lC (o_ai rfl rfl rfl (by omega) rfl rfl ?_)
     refine lP 1 tK rfl (lN ?_)
     exact xN (i + 1) ((rightF t.kids[i] (decide ((i : Int) = 1)) li).2) (s5 rfl rfl rfl rfl rfl) ⟨by omega, by rw [rS hik, hflag] at hrun; simpa [c51] using hrun, hs, hne, h1, hk, Lw, hU, hB⟩ (by omega)
    refine lP 4 tK rfl ?_
    have hflag : kidRow t.op i = false := by clear ih; simp_all [kidRow]
    refine lC (oK fo64 rfl rfl rfl (ih _ (gM hik) false li M _ _ B b hyx hs Lw) ?_)
    rintro _ w28 ⟨rfl, hw28, uw28⟩
    have sw28 := uw28.sp hs.inM Lw hs.ge
    have frw28 := uw28.upd.2
    replace hU := hU.trans uw28
    replace h1 := h1.sp sw28
    replace hk := hk.sp sw28
    replace hyx := Rep.sp hyx sw28
    replace hkx := hkx.sp sw28
    replace hX := hX.sp sw28
    replace h5 := h5.sp sw28
    replace Lw := sw28.low
    replace hB := sw28.z hB
    replace hs := hw28
    refine lP 1 tK rfl (q1 ?_)
    refine c_ifB _ rfl (fun c52 => ?_) (fun c52 => ?_)
    ·refine q0 (lP 1 tK rfl (q1 (cR (xB (xR (xR (xB (xR (x1_ rfl rfl ?_)))))))))
     rw [rS hik, hflag] at hrun
     simp only [c52, cond_false] at hrun
     rw [← hrun]
     exact ⟨rfl, hs, hU⟩
    refine cK (x_blk (xS (cG ?_)))
    refine lC (o_ai rfl rfl rfl (by omega) rfl rfl ?_)
    refine lP 1 tK rfl (lN ?_)
    exact xN (i + 1) ((rightF t.kids[i] false li).2) (s5 rfl rfl rfl rfl rfl) ⟨by omega, by rw [rS hik, hflag] at hrun; simpa [c52] using hrun, hs, hne, h1, hk, Lw, hU, hB⟩ (by omega)
   refine c_exit (xE (xE (x_blkE (xS (q0 (lP 1 tK rfl (q1 (cR (x1_ rfl rfl ?_)))))))))
   rw [run_end (by omega)] at hrun
   rw [← hrun]
   exact ⟨rfl, hs, hU⟩
  refine lP 6 tK rfl (q1 (c_ifF rfl (cK (xS ?_))))
  refine c_cut (X := St) (fun li0 => [(0, .map (some b)), (4, .pointer (some ⟨b1, 0, none⟩))]) (fun li0 w' => runR (t.kids.map rightF) (kidRow t.op) 0 li0 = rightF t row l ∧ OM (κ := Int) (fun x : Bool => Value.bool x) B M w' b li0 ∧ b1 ≠ b ∧ At M w' b1 0 [.int .u8 t.op, .string t.name, .int .i64 t.n, kv] ∧ Sl M w' kv t.kids ∧ Low M w' ∧ UpdB b w w' ∧ B ≤ w'.heap.size) ?_ ?_
  ·refine q0 (lP 2 tK rfl ?_)
   refine l_split 75 _ rfl (fun c53 => ?_) (fun c53 => ?_)
   ·refine lP 2 tK rfl ?_
    refine lC (oD tK (h1.cell 2 _ rfl) rfl rfl rfl rfl rfl ?_)
    refine lP 1 tK rfl ?_
    have hpre : preR t.op row t.kids.length t.name t.n = true := by clear ih; rw [preR, hko]; unfold headOk; simp_all [numB] <;> omega
    refine lC (oK fo94 rfl rfl rfl (meet_spec M _ B b l t.n row hs Lw) ?_)
    rintro _ w30 ⟨rfl, hw30, uw30⟩
    have sw30 := uw30.sp hs.inM Lw hs.ge
    have frw30 := uw30.upd.2
    replace hU := hU.trans uw30
    replace ht := Rep.sp ht sw30
    replace hk := hk.sp sw30
    replace h1 := h1.sp sw30
    replace Lw := sw30.low
    replace hB := sw30.z hB
    replace hs := hw30
    refine lP 2 tK rfl (q1 ?_)
    refine c_ifB _ rfl (fun c54 => ?_) (fun c54 => ?_)
    ·refine q0 (lP 1 tK rfl (q1 (cR (xR (x1_ rfl rfl ?_)))))
     rw [right_meet_no hpre (by clear ih; simp_all) c54]
     exact ⟨rfl, hs, hU⟩
    refine cK ?_
    have hrun := (right_meet_yes (row := row) (s := l) hpre (by clear ih; simp_all) (by clear ih; simp_all)).symm
    exact x_cut ((meetS l t.n row).2) (s2 rfl rfl) ⟨hrun, hs, fun e => h1.nM (e ▸ hs.inM), h1, hk, Lw, hU, hB⟩
   refine lP 7 tK rfl (q1 (c_ifF rfl (cK ?_)))
   have hpre : preR t.op row t.kids.length t.name t.n = true := by clear ih; rw [preR, hko]; unfold headOk; simp_all [numB] <;> omega
   have hrun := (right_plain (row := row) (s := l) hpre (by clear ih; simp_all)).symm
   exact x_cut (l) (s2 rfl rfl) ⟨hrun, hs, fun e => h1.nM (e ▸ hs.inM), h1, hk, Lw, hU, hB⟩
  rintro li0 w29 ⟨hrun, hs, hne, h1, hk, Lw, hU, hB⟩
  refine cS (q0 (lP 1 tK rfl ?_))
  refine lC (oD tK (h1.cell 3 _ rfl) rfl rfl rfl rfl rfl ?_)
  refine lC (o_len tK hk rfl rfl rfl rfl rfl ?_)
  refine lP 1 tK rfl (q1 (cB ?_))
  refine c_loop2 (X := Nat) (Y := St) (fun i li => [(0, .map (some b)), (4, .pointer (some ⟨b1, 0, none⟩)), (84, kv), (85, .int .i64 (t.kids.length : Int)), (86, .int .i64 (i : Nat))]) (fun i li w' => i ≤ t.kids.length ∧ runR ((t.kids.drop i).map rightF) (kidRow t.op) i li = rightF t row l ∧ OM (κ := Int) (fun x : Bool => Value.bool x) B M w' b li ∧ b1 ≠ b ∧ At M w' b1 0 [.int .u8 t.op, .string t.name, .int .i64 t.n, kv] ∧ Sl M w' kv t.kids ∧ Low M w' ∧ UpdB b w w' ∧ B ≤ w'.heap.size) (fun i li => t.kids.length - i) (0) (li0) (s5 rfl rfl rfl rfl rfl) ?_ ?_
  ·exact ⟨Nat.zero_le _, by simpa using hrun, hs, hne, h1, hk, Lw, hU, hB⟩
  rintro i li w31 ⟨hi, hrun, hs, hne, h1, hk, Lw, hU, hB⟩
  refine q0 (lP 1 tK rfl (q1 (cS ?_)))
  refine cP _ rfl (fun c55 => ?_) (fun c55 => ?_)
  ·refine cK (xS (cS (cB (q0 (lP 1 tK rfl ?_)))))
   have hik : i < t.kids.length := by omega
   refine lC (o_ixS tK hk (gE hik) rfl rfl rfl rfl rfl rfl rfl rfl rfl ?_)
   intro ebx eox eux hyx hX
   obtain ⟨kvx, rfl, opx, nmx, n64x, hkx⟩ := tO hyx
   replace hX : At M w31 ebx eox [.int .u8 t.kids[i].op, .string t.kids[i].name, .int .i64 t.kids[i].n, kvx] := hX
   refine lC (oL tK (fun j v hv => hX.cell j v hv) rfl rfl rfl rfl rfl rfl ?_)
   refine lC (o_new tK rfl rfl rfl ?_)
   intro b5 w32 qb5 ew32 hb5
   have nb5 := nO Lw qb5
   refine lP 1 tK rfl ?_
   refine lC (o_st tK hb5 rfl rfl rfl rfl (Rep.one hyx) rfl rfl ?_)
   intro w33 h5 uw33 bew33
   have ew33 : Ext w31 w33 := ew32.trans (bew33 _ (lQ qb5.symm))
   replace hU := hU.trans (UpdB.Y ew33 hs.lt)
   replace hs := hs.Y Lw hB ew33
   replace h1 := h1.Y ew33
   replace hk := hk.Y ew33
   replace hyx := Rep.Y hyx ew33
   replace hkx := hkx.Y ew33
   replace hX := hX.Y ew33
   replace Lw := Lw.Y ew33
   replace hB := ew33.z hB
   replace h5 : Box w33 b5 25 [.int .u8 t.kids[i].op, .string t.kids[i].name, .int .i64 t.kids[i].n, kvx] := h5
   replace h5 := h5.at nb5
   refine q1 (q0 (lP 1 tK rfl ?_))
   refine lC (oL tK (fun j v hv => h5.cell j v hv) rfl rfl rfl rfl rfl rfl ?_)
   refine lP 1 tK rfl ?_
   refine lC (oD tK (h1.cell 0 _ rfl) rfl rfl rfl rfl rfl ?_)
   refine lP 2 tK rfl ?_
   refine lS 96 _ rfl (fun c56 => ?_) (fun c56 => ?_)
   ·refine lP 13 tK rfl ?_
    have hflag : kidRow t.op i = true := by clear ih; simp_all [kidRow]
    refine lC (oK fo64 rfl rfl rfl (ih _ (gM hik) true li M _ _ B b hyx hs Lw) ?_)
    rintro _ w34 ⟨rfl, hw34, uw34⟩
    have sw34 := uw34.sp hs.inM Lw hs.ge
    have frw34 := uw34.upd.2
    replace hU := hU.trans uw34
    replace h1 := h1.sp sw34
    replace hk := hk.sp sw34
    replace hyx := Rep.sp hyx sw34
    replace hkx := hkx.sp sw34
    replace hX := hX.sp sw34
    replace h5 := h5.sp sw34
    replace Lw := sw34.low
    replace hB := sw34.z hB
    replace hs := hw34
    refine lP 1 tK rfl (q1 ?_)
    refine c_ifB _ rfl (fun c57 => ?_) (fun c57 => ?_)
    ·refine q0 (lP 1 tK rfl (q1 (cR (xB (xR (xR (xB (xR (x1_ rfl rfl ?_)))))))))
     rw [rS hik, hflag] at hrun
     simp only [c57, cond_false] at hrun
     rw [← hrun]
     exact ⟨rfl, hs, hU⟩
    refine cK (x_blk (xS (cG ?_)))
    refine lC (o_ai rfl rfl rfl (by omega) rfl rfl ?_)
    refine lP 1 tK rfl (lN ?_)
    exact xN (i + 1) ((rightF t.kids[i] true li).2) (s5 rfl rfl rfl rfl rfl) ⟨by omega, by rw [rS hik, hflag] at hrun; simpa [c57] using hrun, hs, hne, h1, hk, Lw, hU, hB⟩ (by omega)
   refine lP 1 tK rfl ?_
   refine lC (oD tK (h1.cell 0 _ rfl) rfl rfl rfl rfl rfl ?_)
   refine lP 3 tK rfl ?_
   refine lS 101 _ rfl (fun c58 => ?_) (fun c58 => ?_)
   ·refine lP 8 tK rfl ?_
    have hflag : kidRow t.op i = true := by clear ih; simp_all [kidRow]
    refine lC (oK fo64 rfl rfl rfl (ih _ (gM hik) true li M _ _ B b hyx hs Lw) ?_)
    rintro _ w35 ⟨rfl, hw35, uw35⟩
    have sw35 := uw35.sp hs.inM Lw hs.ge
    have frw35 := uw35.upd.2
    replace hU := hU.trans uw35
    replace h1 := h1.sp sw35
    replace hk := hk.sp sw35
    replace hyx := Rep.sp hyx sw35
    replace hkx := hkx.sp sw35
    replace hX := hX.sp sw35
    replace h5 := h5.sp sw35
    replace Lw := sw35.low
    replace hB := sw35.z hB
    replace hs := hw35
    refine lP 1 tK rfl (q1 ?_)
    refine c_ifB _ rfl (fun c59 => ?_) (fun c59 => ?_)
    ·refine q0 (lP 1 tK rfl (q1 (cR (xB (xR (xR (xB (xR (x1_ rfl rfl ?_)))))))))
     rw [rS hik, hflag] at hrun
     simp only [c59, cond_false] at hrun
     rw [← hrun]
     exact ⟨rfl, hs, hU⟩
    refine cK (x_blk (xS (cG ?_)))
    refine lC (o_ai rfl rfl rfl (by omega) rfl rfl ?_)
    refine lP 1 tK rfl (lN ?_)
    exact xN (i + 1) ((rightF t.kids[i] true li).2) (s5 rfl rfl rfl rfl rfl) ⟨by omega, by rw [rS hik, hflag] at hrun; simpa [c59] using hrun, hs, hne, h1, hk, Lw, hU, hB⟩ (by omega)
   refine lP 1 tK rfl ?_
   refine lC (oD tK (h1.cell 0 _ rfl) rfl rfl rfl rfl rfl ?_)
   refine lP 2 tK rfl ?_
   refine lS 105 _ rfl (fun c60 => ?_) (fun c60 => ?_)
   ·refine lP 4 tK rfl ?_
    have hflag : kidRow t.op i = decide ((i : Int) = 1) := by clear ih; simp_all [kidRow]
    refine lC (oK fo64 rfl rfl rfl (ih _ (gM hik) (decide ((i : Int) = 1)) li M _ _ B b hyx hs Lw) ?_)
    rintro _ w36 ⟨rfl, hw36, uw36⟩
    have sw36 := uw36.sp hs.inM Lw hs.ge
    have frw36 := uw36.upd.2
    replace hU := hU.trans uw36
    replace h1 := h1.sp sw36
    replace hk := hk.sp sw36
    replace hyx := Rep.sp hyx sw36
    replace hkx := hkx.sp sw36
    replace hX := hX.sp sw36
    replace h5 := h5.sp sw36
    replace Lw := sw36.low
    replace hB := sw36.z hB
    replace hs := hw36
    refine lP 1 tK rfl (q1 ?_)
    refine c_ifB _ rfl (fun c61 => ?_) (fun c61 => ?_)
    ·refine q0 (lP 1 tK rfl (q1 (cR (xB (xR (xR (xB (xR (x1_ rfl rfl ?_)))))))))
     rw [rS hik, hflag] at hrun
     simp only [c61, cond_false] at hrun
     rw [← hrun]
     exact ⟨rfl, hs, hU⟩
    refine cK (x_blk (xS (cG ?_)))
    refine lC (o_ai rfl rfl rfl (by omega) rfl rfl ?_)
    refine lP 1 tK rfl (lN ?_)
    exact xN (i + 1) ((rightF t.kids[i] (decide ((i : Int) = 1)) li).2) (s5 rfl rfl rfl rfl rfl) ⟨by omega, by rw [rS hik, hflag] at hrun; simpa [c61] using hrun, hs, hne, h1, hk, Lw, hU, hB⟩ (by omega)
   refine lP 4 tK rfl ?_
   have hflag : kidRow t.op i = false := by clear ih; simp_all [kidRow]
   refine lC (oK fo64 rfl rfl rfl (ih _ (gM hik) false li M _ _ B b hyx hs Lw) ?_)
   rintro _ w37 ⟨rfl, hw37, uw37⟩
   have sw37 := uw37.sp hs.inM Lw hs.ge
   have frw37 := uw37.upd.2
   replace hU := hU.trans uw37
   replace h1 := h1.sp sw37
   replace hk := hk.sp sw37
   replace hyx := Rep.sp hyx sw37
   replace hkx := hkx.sp sw37
   replace hX := hX.sp sw37
   replace h5 := h5.sp sw37
   replace Lw := sw37.low
   replace hB := sw37.z hB
   replace hs := hw37
   refine lP 1 tK rfl (q1 ?_)
   refine c_ifB _ rfl (fun c62 => ?_) (fun c62 => ?_)
   ·refine q0 (lP 1 tK rfl (q1 (cR (xB (xR (xR (xB (xR (x1_ rfl rfl ?_)))))))))
    rw [rS hik, hflag] at hrun
    simp only [c62, cond_false] at hrun
    rw [← hrun]
    exact ⟨rfl, hs, hU⟩
   refine cK (x_blk (xS (cG ?_)))
   refine lC (o_ai rfl rfl rfl (by omega) rfl rfl ?_)
   refine lP 1 tK rfl (lN ?_)
   exact xN (i + 1) ((rightF t.kids[i] false li).2) (s5 rfl rfl rfl rfl rfl) ⟨by omega, by rw [rS hik, hflag] at hrun; simpa [c62] using hrun, hs, hne, h1, hk, Lw, hU, hB⟩ (by omega)
  refine c_exit (xE (xE (x_blkE (xS (q0 (lP 1 tK rfl (q1 (cR (x1_ rfl rfl ?_)))))))))
  rw [run_end (by omega)] at hrun
  rw [← hrun]
  exact ⟨rfl, hs, hU⟩
 refine lP 5 tK rfl (q1 (c_ifF rfl (cK (xS (cS (q0 (lP 3 tK rfl ?_)))))))
 refine l_splitB 60 _ rfl (fun c63 => ?_) (fun c63 => ?_)
 ·refine lP 1 tK rfl ?_
  refine lC (oD tK (h1.cell 1 _ rfl) rfl rfl rfl rfl rfl ?_)
  refine lP 3 tK rfl ?_
  refine l_splitN 65 _ rfl (fun c64 => ?_) (fun c64 => ?_)
  ·refine lP 8 tK rfl (q1 (cI rfl (q0 (lP 1 tK rfl (q1 (cR (xR (x1_ rfl rfl ?_))))))))
   rw [right_pre_no (by clear ih; rw [preR, hko]; unfold headOk; simp_all [numB] <;> omega)]
   exact ⟨rfl, hs, hU⟩
  refine lP 2 tK rfl ?_
  refine l_split 67 _ rfl (fun c65 => ?_) (fun c65 => ?_)
  ·refine lP 1 tK rfl ?_
   refine lC (oD tK (h1.cell 1 _ rfl) rfl rfl rfl rfl rfl ?_)
   refine lC (oK fo93 rfl rfl rfl (isWord_spec _ t.name nm) ?_)
   rintro _ _ ⟨rfl, rfl⟩
   refine lP 3 tK rfl (q1 ?_)
   refine c_ifB _ rfl (fun c66 => ?_) (fun c66 => ?_)
   ·refine q0 (lP 1 tK rfl (q1 (cR (xR (x1_ rfl rfl ?_)))))
    rw [right_pre_no (by clear ih; rw [preR, hko]; unfold headOk; simp_all [numB] <;> omega)]
    exact ⟨rfl, hs, hU⟩
   refine cK (xS ?_)
   refine c_cut (X := St) (fun li0 => [(0, .map (some b)), (4, .pointer (some ⟨b1, 0, none⟩))]) (fun li0 w' => runR (t.kids.map rightF) (kidRow t.op) 0 li0 = rightF t row l ∧ OM (κ := Int) (fun x : Bool => Value.bool x) B M w' b li0 ∧ b1 ≠ b ∧ At M w' b1 0 [.int .u8 t.op, .string t.name, .int .i64 t.n, kv] ∧ Sl M w' kv t.kids ∧ Low M w' ∧ UpdB b w w' ∧ B ≤ w'.heap.size) ?_ ?_
   ·refine q0 (lP 2 tK rfl ?_)
    refine l_split 75 _ rfl (fun c67 => ?_) (fun c67 => ?_)
    ·refine lP 2 tK rfl ?_
     refine lC (oD tK (h1.cell 2 _ rfl) rfl rfl rfl rfl rfl ?_)
     refine lP 1 tK rfl ?_
     have hpre : preR t.op row t.kids.length t.name t.n = true := by clear ih; rw [preR, hko]; unfold headOk; simp_all [numB] <;> omega
     refine lC (oK fo94 rfl rfl rfl (meet_spec M _ B b l t.n row hs Lw) ?_)
     rintro _ w39 ⟨rfl, hw39, uw39⟩
     have sw39 := uw39.sp hs.inM Lw hs.ge
     have frw39 := uw39.upd.2
     replace hU := hU.trans uw39
     replace ht := Rep.sp ht sw39
     replace hk := hk.sp sw39
     replace h1 := h1.sp sw39
     replace Lw := sw39.low
     replace hB := sw39.z hB
     replace hs := hw39
     refine lP 2 tK rfl (q1 ?_)
     refine c_ifB _ rfl (fun c68 => ?_) (fun c68 => ?_)
     ·refine q0 (lP 1 tK rfl (q1 (cR (xR (x1_ rfl rfl ?_)))))
      rw [right_meet_no hpre (by clear ih; simp_all) c68]
      exact ⟨rfl, hs, hU⟩
     refine cK ?_
     have hrun := (right_meet_yes (row := row) (s := l) hpre (by clear ih; simp_all) (by clear ih; simp_all)).symm
     exact x_cut ((meetS l t.n row).2) (s2 rfl rfl) ⟨hrun, hs, fun e => h1.nM (e ▸ hs.inM), h1, hk, Lw, hU, hB⟩
    refine lP 7 tK rfl (q1 (c_ifF rfl (cK ?_)))
    have hpre : preR t.op row t.kids.length t.name t.n = true := by clear ih; rw [preR, hko]; unfold headOk; simp_all [numB] <;> omega
    have hrun := (right_plain (row := row) (s := l) hpre (by clear ih; simp_all)).symm
    exact x_cut (l) (s2 rfl rfl) ⟨hrun, hs, fun e => h1.nM (e ▸ hs.inM), h1, hk, Lw, hU, hB⟩
   rintro li0 w38 ⟨hrun, hs, hne, h1, hk, Lw, hU, hB⟩
   refine cS (q0 (lP 1 tK rfl ?_))
   refine lC (oD tK (h1.cell 3 _ rfl) rfl rfl rfl rfl rfl ?_)
   refine lC (o_len tK hk rfl rfl rfl rfl rfl ?_)
   refine lP 1 tK rfl (q1 (cB ?_))
   refine c_loop2 (X := Nat) (Y := St) (fun i li => [(0, .map (some b)), (4, .pointer (some ⟨b1, 0, none⟩)), (84, kv), (85, .int .i64 (t.kids.length : Int)), (86, .int .i64 (i : Nat))]) (fun i li w' => i ≤ t.kids.length ∧ runR ((t.kids.drop i).map rightF) (kidRow t.op) i li = rightF t row l ∧ OM (κ := Int) (fun x : Bool => Value.bool x) B M w' b li ∧ b1 ≠ b ∧ At M w' b1 0 [.int .u8 t.op, .string t.name, .int .i64 t.n, kv] ∧ Sl M w' kv t.kids ∧ Low M w' ∧ UpdB b w w' ∧ B ≤ w'.heap.size) (fun i li => t.kids.length - i) (0) (li0) (s5 rfl rfl rfl rfl rfl) ?_ ?_
   ·exact ⟨Nat.zero_le _, by simpa using hrun, hs, hne, h1, hk, Lw, hU, hB⟩
   rintro i li w40 ⟨hi, hrun, hs, hne, h1, hk, Lw, hU, hB⟩
   refine q0 (lP 1 tK rfl (q1 (cS ?_)))
   refine cP _ rfl (fun c69 => ?_) (fun c69 => ?_)
   ·refine cK (xS (cS (cB (q0 (lP 1 tK rfl ?_)))))
    have hik : i < t.kids.length := by omega
    refine lC (o_ixS tK hk (gE hik) rfl rfl rfl rfl rfl rfl rfl rfl rfl ?_)
    intro ebx eox eux hyx hX
    obtain ⟨kvx, rfl, opx, nmx, n64x, hkx⟩ := tO hyx
    replace hX : At M w40 ebx eox [.int .u8 t.kids[i].op, .string t.kids[i].name, .int .i64 t.kids[i].n, kvx] := hX
    refine lC (oL tK (fun j v hv => hX.cell j v hv) rfl rfl rfl rfl rfl rfl ?_)
    refine lC (o_new tK rfl rfl rfl ?_)
    intro b5 w41 qb5 ew41 hb5
    have nb5 := nO Lw qb5
    refine lP 1 tK rfl ?_
    refine lC (o_st tK hb5 rfl rfl rfl rfl (Rep.one hyx) rfl rfl ?_)
    intro w42 h5 uw42 bew42
    have ew42 : Ext w40 w42 := ew41.trans (bew42 _ (lQ qb5.symm))
    replace hU := hU.trans (UpdB.Y ew42 hs.lt)
    replace hs := hs.Y Lw hB ew42
    replace h1 := h1.Y ew42
    replace hk := hk.Y ew42
    replace hyx := Rep.Y hyx ew42
    replace hkx := hkx.Y ew42
    replace hX := hX.Y ew42
    replace Lw := Lw.Y ew42
    replace hB := ew42.z hB
    replace h5 : Box w42 b5 25 [.int .u8 t.kids[i].op, .string t.kids[i].name, .int .i64 t.kids[i].n, kvx] := h5
    replace h5 := h5.at nb5
    refine q1 (q0 (lP 1 tK rfl ?_))
    refine lC (oL tK (fun j v hv => h5.cell j v hv) rfl rfl rfl rfl rfl rfl ?_)
    refine lP 1 tK rfl ?_
    refine lC (oD tK (h1.cell 0 _ rfl) rfl rfl rfl rfl rfl ?_)
    refine lP 2 tK rfl ?_
    refine lS 96 _ rfl (fun c70 => ?_) (fun c70 => ?_)
    ·refine lP 13 tK rfl ?_
     have hflag : kidRow t.op i = true := by clear ih; simp_all [kidRow]
     refine lC (oK fo64 rfl rfl rfl (ih _ (gM hik) true li M _ _ B b hyx hs Lw) ?_)
     rintro _ w43 ⟨rfl, hw43, uw43⟩
     have sw43 := uw43.sp hs.inM Lw hs.ge
     have frw43 := uw43.upd.2
     replace hU := hU.trans uw43
     replace h1 := h1.sp sw43
     replace hk := hk.sp sw43
     replace hyx := Rep.sp hyx sw43
     replace hkx := hkx.sp sw43
     replace hX := hX.sp sw43
     replace h5 := h5.sp sw43
     replace Lw := sw43.low
     replace hB := sw43.z hB
     replace hs := hw43
     refine lP 1 tK rfl (q1 ?_)
     refine c_ifB _ rfl (fun c71 => ?_) (fun c71 => ?_)
     ·refine q0 (lP 1 tK rfl (q1 (cR (xB (xR (xR (xB (xR (x1_ rfl rfl ?_)))))))))
      rw [rS hik, hflag] at hrun
      simp only [c71, cond_false] at hrun
      rw [← hrun]
      exact ⟨rfl, hs, hU⟩
     refine cK (x_blk (xS (cG ?_)))
     refine lC (o_ai rfl rfl rfl (by omega) rfl rfl ?_)
     refine lP 1 tK rfl (lN ?_)
     exact xN (i + 1) ((rightF t.kids[i] true li).2) (s5 rfl rfl rfl rfl rfl) ⟨by omega, by rw [rS hik, hflag] at hrun; simpa [c71] using hrun, hs, hne, h1, hk, Lw, hU, hB⟩ (by omega)
    refine lP 1 tK rfl ?_
    refine lC (oD tK (h1.cell 0 _ rfl) rfl rfl rfl rfl rfl ?_)
    refine lP 3 tK rfl ?_
    refine lS 101 _ rfl (fun c72 => ?_) (fun c72 => ?_)
    ·refine lP 8 tK rfl ?_
     have hflag : kidRow t.op i = true := by clear ih; simp_all [kidRow]
     refine lC (oK fo64 rfl rfl rfl (ih _ (gM hik) true li M _ _ B b hyx hs Lw) ?_)
     rintro _ w44 ⟨rfl, hw44, uw44⟩
     have sw44 := uw44.sp hs.inM Lw hs.ge
     have frw44 := uw44.upd.2
     replace hU := hU.trans uw44
     replace h1 := h1.sp sw44
     replace hk := hk.sp sw44
     replace hyx := Rep.sp hyx sw44
     replace hkx := hkx.sp sw44
     replace hX := hX.sp sw44
     replace h5 := h5.sp sw44
     replace Lw := sw44.low
     replace hB := sw44.z hB
     replace hs := hw44
     refine lP 1 tK rfl (q1 ?_)
     refine c_ifB _ rfl (fun c73 => ?_) (fun c73 => ?_)
     ·refine q0 (lP 1 tK rfl (q1 (cR (xB (xR (xR (xB (xR (x1_ rfl rfl ?_)))))))))
      rw [rS hik, hflag] at hrun
      simp only [c73, cond_false] at hrun
      rw [← hrun]
      exact ⟨rfl, hs, hU⟩
     refine cK (x_blk (xS (cG ?_)))
     refine lC (o_ai rfl rfl rfl (by omega) rfl rfl ?_)
     refine lP 1 tK rfl (lN ?_)
     exact xN (i + 1) ((rightF t.kids[i] true li).2) (s5 rfl rfl rfl rfl rfl) ⟨by omega, by rw [rS hik, hflag] at hrun; simpa [c73] using hrun, hs, hne, h1, hk, Lw, hU, hB⟩ (by omega)
    refine lP 1 tK rfl ?_
    refine lC (oD tK (h1.cell 0 _ rfl) rfl rfl rfl rfl rfl ?_)
    refine lP 2 tK rfl ?_
    refine lS 105 _ rfl (fun c74 => ?_) (fun c74 => ?_)
    ·refine lP 4 tK rfl ?_
     have hflag : kidRow t.op i = decide ((i : Int) = 1) := by clear ih; simp_all [kidRow]
     refine lC (oK fo64 rfl rfl rfl (ih _ (gM hik) (decide ((i : Int) = 1)) li M _ _ B b hyx hs Lw) ?_)
     rintro _ w45 ⟨rfl, hw45, uw45⟩
     have sw45 := uw45.sp hs.inM Lw hs.ge
     have frw45 := uw45.upd.2
     replace hU := hU.trans uw45
     replace h1 := h1.sp sw45
     replace hk := hk.sp sw45
     replace hyx := Rep.sp hyx sw45
     replace hkx := hkx.sp sw45
     replace hX := hX.sp sw45
     replace h5 := h5.sp sw45
     replace Lw := sw45.low
     replace hB := sw45.z hB
     replace hs := hw45
     refine lP 1 tK rfl (q1 ?_)
     refine c_ifB _ rfl (fun c75 => ?_) (fun c75 => ?_)
     ·refine q0 (lP 1 tK rfl (q1 (cR (xB (xR (xR (xB (xR (x1_ rfl rfl ?_)))))))))
      rw [rS hik, hflag] at hrun
      simp only [c75, cond_false] at hrun
      rw [← hrun]
      exact ⟨rfl, hs, hU⟩
     refine cK (x_blk (xS (cG ?_)))
     refine lC (o_ai rfl rfl rfl (by omega) rfl rfl ?_)
     refine lP 1 tK rfl (lN ?_)
     exact xN (i + 1) ((rightF t.kids[i] (decide ((i : Int) = 1)) li).2) (s5 rfl rfl rfl rfl rfl) ⟨by omega, by rw [rS hik, hflag] at hrun; simpa [c75] using hrun, hs, hne, h1, hk, Lw, hU, hB⟩ (by omega)
    refine lP 4 tK rfl ?_
    have hflag : kidRow t.op i = false := by clear ih; simp_all [kidRow]
    refine lC (oK fo64 rfl rfl rfl (ih _ (gM hik) false li M _ _ B b hyx hs Lw) ?_)
    rintro _ w46 ⟨rfl, hw46, uw46⟩
    have sw46 := uw46.sp hs.inM Lw hs.ge
    have frw46 := uw46.upd.2
    replace hU := hU.trans uw46
    replace h1 := h1.sp sw46
    replace hk := hk.sp sw46
    replace hyx := Rep.sp hyx sw46
    replace hkx := hkx.sp sw46
    replace hX := hX.sp sw46
    replace h5 := h5.sp sw46
    replace Lw := sw46.low
    replace hB := sw46.z hB
    replace hs := hw46
    refine lP 1 tK rfl (q1 ?_)
    refine c_ifB _ rfl (fun c76 => ?_) (fun c76 => ?_)
    ·refine q0 (lP 1 tK rfl (q1 (cR (xB (xR (xR (xB (xR (x1_ rfl rfl ?_)))))))))
     rw [rS hik, hflag] at hrun
     simp only [c76, cond_false] at hrun
     rw [← hrun]
     exact ⟨rfl, hs, hU⟩
    refine cK (x_blk (xS (cG ?_)))
    refine lC (o_ai rfl rfl rfl (by omega) rfl rfl ?_)
    refine lP 1 tK rfl (lN ?_)
    exact xN (i + 1) ((rightF t.kids[i] false li).2) (s5 rfl rfl rfl rfl rfl) ⟨by omega, by rw [rS hik, hflag] at hrun; simpa [c76] using hrun, hs, hne, h1, hk, Lw, hU, hB⟩ (by omega)
   refine c_exit (xE (xE (x_blkE (xS (q0 (lP 1 tK rfl (q1 (cR (x1_ rfl rfl ?_)))))))))
   rw [run_end (by omega)] at hrun
   rw [← hrun]
   exact ⟨rfl, hs, hU⟩
  refine lP 6 tK rfl (q1 (c_ifF rfl (cK (xS ?_))))
  refine c_cut (X := St) (fun li0 => [(0, .map (some b)), (4, .pointer (some ⟨b1, 0, none⟩))]) (fun li0 w' => runR (t.kids.map rightF) (kidRow t.op) 0 li0 = rightF t row l ∧ OM (κ := Int) (fun x : Bool => Value.bool x) B M w' b li0 ∧ b1 ≠ b ∧ At M w' b1 0 [.int .u8 t.op, .string t.name, .int .i64 t.n, kv] ∧ Sl M w' kv t.kids ∧ Low M w' ∧ UpdB b w w' ∧ B ≤ w'.heap.size) ?_ ?_
  ·refine q0 (lP 2 tK rfl ?_)
   refine l_split 75 _ rfl (fun c77 => ?_) (fun c77 => ?_)
   ·refine lP 2 tK rfl ?_
    refine lC (oD tK (h1.cell 2 _ rfl) rfl rfl rfl rfl rfl ?_)
    refine lP 1 tK rfl ?_
    have hpre : preR t.op row t.kids.length t.name t.n = true := by clear ih; rw [preR, hko]; unfold headOk; simp_all [numB] <;> omega
    refine lC (oK fo94 rfl rfl rfl (meet_spec M _ B b l t.n row hs Lw) ?_)
    rintro _ w48 ⟨rfl, hw48, uw48⟩
    have sw48 := uw48.sp hs.inM Lw hs.ge
    have frw48 := uw48.upd.2
    replace hU := hU.trans uw48
    replace ht := Rep.sp ht sw48
    replace hk := hk.sp sw48
    replace h1 := h1.sp sw48
    replace Lw := sw48.low
    replace hB := sw48.z hB
    replace hs := hw48
    refine lP 2 tK rfl (q1 ?_)
    refine c_ifB _ rfl (fun c78 => ?_) (fun c78 => ?_)
    ·refine q0 (lP 1 tK rfl (q1 (cR (xR (x1_ rfl rfl ?_)))))
     rw [right_meet_no hpre (by clear ih; simp_all) c78]
     exact ⟨rfl, hs, hU⟩
    refine cK ?_
    have hrun := (right_meet_yes (row := row) (s := l) hpre (by clear ih; simp_all) (by clear ih; simp_all)).symm
    exact x_cut ((meetS l t.n row).2) (s2 rfl rfl) ⟨hrun, hs, fun e => h1.nM (e ▸ hs.inM), h1, hk, Lw, hU, hB⟩
   refine lP 7 tK rfl (q1 (c_ifF rfl (cK ?_)))
   have hpre : preR t.op row t.kids.length t.name t.n = true := by clear ih; rw [preR, hko]; unfold headOk; simp_all [numB] <;> omega
   have hrun := (right_plain (row := row) (s := l) hpre (by clear ih; simp_all)).symm
   exact x_cut (l) (s2 rfl rfl) ⟨hrun, hs, fun e => h1.nM (e ▸ hs.inM), h1, hk, Lw, hU, hB⟩
  rintro li0 w47 ⟨hrun, hs, hne, h1, hk, Lw, hU, hB⟩
  refine cS (q0 (lP 1 tK rfl ?_))
  refine lC (oD tK (h1.cell 3 _ rfl) rfl rfl rfl rfl rfl ?_)
  refine lC (o_len tK hk rfl rfl rfl rfl rfl ?_)
  refine lP 1 tK rfl (q1 (cB ?_))
  refine c_loop2 (X := Nat) (Y := St) (fun i li => [(0, .map (some b)), (4, .pointer (some ⟨b1, 0, none⟩)), (84, kv), (85, .int .i64 (t.kids.length : Int)), (86, .int .i64 (i : Nat))]) (fun i li w' => i ≤ t.kids.length ∧ runR ((t.kids.drop i).map rightF) (kidRow t.op) i li = rightF t row l ∧ OM (κ := Int) (fun x : Bool => Value.bool x) B M w' b li ∧ b1 ≠ b ∧ At M w' b1 0 [.int .u8 t.op, .string t.name, .int .i64 t.n, kv] ∧ Sl M w' kv t.kids ∧ Low M w' ∧ UpdB b w w' ∧ B ≤ w'.heap.size) (fun i li => t.kids.length - i) (0) (li0) (s5 rfl rfl rfl rfl rfl) ?_ ?_
  ·exact ⟨Nat.zero_le _, by simpa using hrun, hs, hne, h1, hk, Lw, hU, hB⟩
  rintro i li w49 ⟨hi, hrun, hs, hne, h1, hk, Lw, hU, hB⟩
  refine q0 (lP 1 tK rfl (q1 (cS ?_)))
  refine cP _ rfl (fun c79 => ?_) (fun c79 => ?_)
  ·refine cK (xS (cS (cB (q0 (lP 1 tK rfl ?_)))))
   have hik : i < t.kids.length := by omega
   refine lC (o_ixS tK hk (gE hik) rfl rfl rfl rfl rfl rfl rfl rfl rfl ?_)
   intro ebx eox eux hyx hX
   obtain ⟨kvx, rfl, opx, nmx, n64x, hkx⟩ := tO hyx
   replace hX : At M w49 ebx eox [.int .u8 t.kids[i].op, .string t.kids[i].name, .int .i64 t.kids[i].n, kvx] := hX
   refine lC (oL tK (fun j v hv => hX.cell j v hv) rfl rfl rfl rfl rfl rfl ?_)
   refine lC (o_new tK rfl rfl rfl ?_)
   intro b5 w50 qb5 ew50 hb5
   have nb5 := nO Lw qb5
   refine lP 1 tK rfl ?_
   refine lC (o_st tK hb5 rfl rfl rfl rfl (Rep.one hyx) rfl rfl ?_)
   intro w51 h5 uw51 bew51
   have ew51 : Ext w49 w51 := ew50.trans (bew51 _ (lQ qb5.symm))
   replace hU := hU.trans (UpdB.Y ew51 hs.lt)
   replace hs := hs.Y Lw hB ew51
   replace h1 := h1.Y ew51
   replace hk := hk.Y ew51
   replace hyx := Rep.Y hyx ew51
   replace hkx := hkx.Y ew51
   replace hX := hX.Y ew51
   replace Lw := Lw.Y ew51
   replace hB := ew51.z hB
   replace h5 : Box w51 b5 25 [.int .u8 t.kids[i].op, .string t.kids[i].name, .int .i64 t.kids[i].n, kvx] := h5
   replace h5 := h5.at nb5
   refine q1 (q0 (lP 1 tK rfl ?_))
   refine lC (oL tK (fun j v hv => h5.cell j v hv) rfl rfl rfl rfl rfl rfl ?_)
   refine lP 1 tK rfl ?_
   refine lC (oD tK (h1.cell 0 _ rfl) rfl rfl rfl rfl rfl ?_)
   refine lP 2 tK rfl ?_
   refine lS 96 _ rfl (fun c80 => ?_) (fun c80 => ?_)
   ·refine lP 13 tK rfl ?_
    have hflag : kidRow t.op i = true := by clear ih; simp_all [kidRow]
    refine lC (oK fo64 rfl rfl rfl (ih _ (gM hik) true li M _ _ B b hyx hs Lw) ?_)
    rintro _ w52 ⟨rfl, hw52, uw52⟩
    have sw52 := uw52.sp hs.inM Lw hs.ge
    have frw52 := uw52.upd.2
    replace hU := hU.trans uw52
    replace h1 := h1.sp sw52
    replace hk := hk.sp sw52
    replace hyx := Rep.sp hyx sw52
    replace hkx := hkx.sp sw52
    replace hX := hX.sp sw52
    replace h5 := h5.sp sw52
    replace Lw := sw52.low
    replace hB := sw52.z hB
    replace hs := hw52
    refine lP 1 tK rfl (q1 ?_)
    refine c_ifB _ rfl (fun c81 => ?_) (fun c81 => ?_)
    ·refine q0 (lP 1 tK rfl (q1 (cR (xB (xR (xR (xB (xR (x1_ rfl rfl ?_)))))))))
     rw [rS hik, hflag] at hrun
     simp only [c81, cond_false] at hrun
     rw [← hrun]
     exact ⟨rfl, hs, hU⟩
    refine cK (x_blk (xS (cG ?_)))
    refine lC (o_ai rfl rfl rfl (by omega) rfl rfl ?_)
    refine lP 1 tK rfl (lN ?_)
    exact xN (i + 1) ((rightF t.kids[i] true li).2) (s5 rfl rfl rfl rfl rfl) ⟨by omega, by rw [rS hik, hflag] at hrun; simpa [c81] using hrun, hs, hne, h1, hk, Lw, hU, hB⟩ (by omega)
   refine lP 1 tK rfl ?_
   refine lC (oD tK (h1.cell 0 _ rfl) rfl rfl rfl rfl rfl ?_)
   refine lP 3 tK rfl ?_
   refine lS 101 _ rfl (fun c82 => ?_) (fun c82 => ?_)
   ·refine lP 8 tK rfl ?_
    have hflag : kidRow t.op i = true := by clear ih; simp_all [kidRow]
    refine lC (oK fo64 rfl rfl rfl (ih _ (gM hik) true li M _ _ B b hyx hs Lw) ?_)
    rintro _ w53 ⟨rfl, hw53, uw53⟩
    have sw53 := uw53.sp hs.inM Lw hs.ge
    have frw53 := uw53.upd.2
    replace hU := hU.trans uw53
    replace h1 := h1.sp sw53
    replace hk := hk.sp sw53
    replace hyx := Rep.sp hyx sw53
    replace hkx := hkx.sp sw53
    replace hX := hX.sp sw53
    replace h5 := h5.sp sw53
    replace Lw := sw53.low
    replace hB := sw53.z hB
    replace hs := hw53
    refine lP 1 tK rfl (q1 ?_)
    refine c_ifB _ rfl (fun c83 => ?_) (fun c83 => ?_)
    ·refine q0 (lP 1 tK rfl (q1 (cR (xB (xR (xR (xB (xR (x1_ rfl rfl ?_)))))))))
     rw [rS hik, hflag] at hrun
     simp only [c83, cond_false] at hrun
     rw [← hrun]
     exact ⟨rfl, hs, hU⟩
    refine cK (x_blk (xS (cG ?_)))
    refine lC (o_ai rfl rfl rfl (by omega) rfl rfl ?_)
    refine lP 1 tK rfl (lN ?_)
    exact xN (i + 1) ((rightF t.kids[i] true li).2) (s5 rfl rfl rfl rfl rfl) ⟨by omega, by rw [rS hik, hflag] at hrun; simpa [c83] using hrun, hs, hne, h1, hk, Lw, hU, hB⟩ (by omega)
   refine lP 1 tK rfl ?_
   refine lC (oD tK (h1.cell 0 _ rfl) rfl rfl rfl rfl rfl ?_)
   refine lP 2 tK rfl ?_
   refine lS 105 _ rfl (fun c84 => ?_) (fun c84 => ?_)
   ·refine lP 4 tK rfl ?_
    have hflag : kidRow t.op i = decide ((i : Int) = 1) := by clear ih; simp_all [kidRow]
    refine lC (oK fo64 rfl rfl rfl (ih _ (gM hik) (decide ((i : Int) = 1)) li M _ _ B b hyx hs Lw) ?_)
    rintro _ w54 ⟨rfl, hw54, uw54⟩
    have sw54 := uw54.sp hs.inM Lw hs.ge
    have frw54 := uw54.upd.2
    replace hU := hU.trans uw54
    replace h1 := h1.sp sw54
    replace hk := hk.sp sw54
    replace hyx := Rep.sp hyx sw54
    replace hkx := hkx.sp sw54
    replace hX := hX.sp sw54
    replace h5 := h5.sp sw54
    replace Lw := sw54.low
    replace hB := sw54.z hB
    replace hs := hw54
    refine lP 1 tK rfl (q1 ?_)
    refine c_ifB _ rfl (fun c85 => ?_) (fun c85 => ?_)
    ·refine q0 (lP 1 tK rfl (q1 (cR (xB (xR (xR (xB (xR (x1_ rfl rfl ?_)))))))))
     rw [rS hik, hflag] at hrun
     simp only [c85, cond_false] at hrun
     rw [← hrun]
     exact ⟨rfl, hs, hU⟩
    refine cK (x_blk (xS (cG ?_)))
    refine lC (o_ai rfl rfl rfl (by omega) rfl rfl ?_)
    refine lP 1 tK rfl (lN ?_)
    exact xN (i + 1) ((rightF t.kids[i] (decide ((i : Int) = 1)) li).2) (s5 rfl rfl rfl rfl rfl) ⟨by omega, by rw [rS hik, hflag] at hrun; simpa [c85] using hrun, hs, hne, h1, hk, Lw, hU, hB⟩ (by omega)
   refine lP 4 tK rfl ?_
   have hflag : kidRow t.op i = false := by clear ih; simp_all [kidRow]
   refine lC (oK fo64 rfl rfl rfl (ih _ (gM hik) false li M _ _ B b hyx hs Lw) ?_)
   rintro _ w55 ⟨rfl, hw55, uw55⟩
   have sw55 := uw55.sp hs.inM Lw hs.ge
   have frw55 := uw55.upd.2
   replace hU := hU.trans uw55
   replace h1 := h1.sp sw55
   replace hk := hk.sp sw55
   replace hyx := Rep.sp hyx sw55
   replace hkx := hkx.sp sw55
   replace hX := hX.sp sw55
   replace h5 := h5.sp sw55
   replace Lw := sw55.low
   replace hB := sw55.z hB
   replace hs := hw55
   refine lP 1 tK rfl (q1 ?_)
   refine c_ifB _ rfl (fun c86 => ?_) (fun c86 => ?_)
   ·refine q0 (lP 1 tK rfl (q1 (cR (xB (xR (xR (xB (xR (x1_ rfl rfl ?_)))))))))
    rw [rS hik, hflag] at hrun
    simp only [c86, cond_false] at hrun
    rw [← hrun]
    exact ⟨rfl, hs, hU⟩
   refine cK (x_blk (xS (cG ?_)))
   refine lC (o_ai rfl rfl rfl (by omega) rfl rfl ?_)
   refine lP 1 tK rfl (lN ?_)
   exact xN (i + 1) ((rightF t.kids[i] false li).2) (s5 rfl rfl rfl rfl rfl) ⟨by omega, by rw [rS hik, hflag] at hrun; simpa [c86] using hrun, hs, hne, h1, hk, Lw, hU, hB⟩ (by omega)
  refine c_exit (xE (xE (x_blkE (xS (q0 (lP 1 tK rfl (q1 (cR (x1_ rfl rfl ?_)))))))))
  rw [run_end (by omega)] at hrun
  rw [← hrun]
  exact ⟨rfl, hs, hU⟩
 refine lP 7 tK rfl ?_
 refine l_split 67 _ rfl (fun c87 => ?_) (fun c87 => ?_)
 ·refine lP 1 tK rfl ?_
  refine lC (oD tK (h1.cell 1 _ rfl) rfl rfl rfl rfl rfl ?_)
  refine lC (oK fo93 rfl rfl rfl (isWord_spec _ t.name nm) ?_)
  rintro _ _ ⟨rfl, rfl⟩
  refine lP 3 tK rfl (q1 ?_)
  refine c_ifB _ rfl (fun c88 => ?_) (fun c88 => ?_)
  ·refine q0 (lP 1 tK rfl (q1 (cR (xR (x1_ rfl rfl ?_)))))
   rw [right_pre_no (by clear ih; rw [preR, hko]; unfold headOk; simp_all [numB] <;> omega)]
   exact ⟨rfl, hs, hU⟩
  refine cK (xS ?_)
  refine c_cut (X := St) (fun li0 => [(0, .map (some b)), (4, .pointer (some ⟨b1, 0, none⟩))]) (fun li0 w' => runR (t.kids.map rightF) (kidRow t.op) 0 li0 = rightF t row l ∧ OM (κ := Int) (fun x : Bool => Value.bool x) B M w' b li0 ∧ b1 ≠ b ∧ At M w' b1 0 [.int .u8 t.op, .string t.name, .int .i64 t.n, kv] ∧ Sl M w' kv t.kids ∧ Low M w' ∧ UpdB b w w' ∧ B ≤ w'.heap.size) ?_ ?_
  ·refine q0 (lP 2 tK rfl ?_)
   refine l_split 75 _ rfl (fun c89 => ?_) (fun c89 => ?_)
   ·refine lP 2 tK rfl ?_
    refine lC (oD tK (h1.cell 2 _ rfl) rfl rfl rfl rfl rfl ?_)
    refine lP 1 tK rfl ?_
    have hpre : preR t.op row t.kids.length t.name t.n = true := by clear ih; rw [preR, hko]; unfold headOk; simp_all [numB] <;> omega
    refine lC (oK fo94 rfl rfl rfl (meet_spec M _ B b l t.n row hs Lw) ?_)
    rintro _ w57 ⟨rfl, hw57, uw57⟩
    have sw57 := uw57.sp hs.inM Lw hs.ge
    have frw57 := uw57.upd.2
    replace hU := hU.trans uw57
    replace ht := Rep.sp ht sw57
    replace hk := hk.sp sw57
    replace h1 := h1.sp sw57
    replace Lw := sw57.low
    replace hB := sw57.z hB
    replace hs := hw57
    refine lP 2 tK rfl (q1 ?_)
    refine c_ifB _ rfl (fun c90 => ?_) (fun c90 => ?_)
    ·refine q0 (lP 1 tK rfl (q1 (cR (xR (x1_ rfl rfl ?_)))))
     rw [right_meet_no hpre (by clear ih; simp_all) c90]
     exact ⟨rfl, hs, hU⟩
    refine cK ?_
    have hrun := (right_meet_yes (row := row) (s := l) hpre (by clear ih; simp_all) (by clear ih; simp_all)).symm
    exact x_cut ((meetS l t.n row).2) (s2 rfl rfl) ⟨hrun, hs, fun e => h1.nM (e ▸ hs.inM), h1, hk, Lw, hU, hB⟩
   refine lP 7 tK rfl (q1 (c_ifF rfl (cK ?_)))
   have hpre : preR t.op row t.kids.length t.name t.n = true := by clear ih; rw [preR, hko]; unfold headOk; simp_all [numB] <;> omega
   have hrun := (right_plain (row := row) (s := l) hpre (by clear ih; simp_all)).symm
   exact x_cut (l) (s2 rfl rfl) ⟨hrun, hs, fun e => h1.nM (e ▸ hs.inM), h1, hk, Lw, hU, hB⟩
  rintro li0 w56 ⟨hrun, hs, hne, h1, hk, Lw, hU, hB⟩
  refine cS (q0 (lP 1 tK rfl ?_))
  refine lC (oD tK (h1.cell 3 _ rfl) rfl rfl rfl rfl rfl ?_)
  refine lC (o_len tK hk rfl rfl rfl rfl rfl ?_)
  refine lP 1 tK rfl (q1 (cB ?_))
  refine c_loop2 (X := Nat) (Y := St) (fun i li => [(0, .map (some b)), (4, .pointer (some ⟨b1, 0, none⟩)), (84, kv), (85, .int .i64 (t.kids.length : Int)), (86, .int .i64 (i : Nat))]) (fun i li w' => i ≤ t.kids.length ∧ runR ((t.kids.drop i).map rightF) (kidRow t.op) i li = rightF t row l ∧ OM (κ := Int) (fun x : Bool => Value.bool x) B M w' b li ∧ b1 ≠ b ∧ At M w' b1 0 [.int .u8 t.op, .string t.name, .int .i64 t.n, kv] ∧ Sl M w' kv t.kids ∧ Low M w' ∧ UpdB b w w' ∧ B ≤ w'.heap.size) (fun i li => t.kids.length - i) (0) (li0) (s5 rfl rfl rfl rfl rfl) ?_ ?_
  ·exact ⟨Nat.zero_le _, by simpa using hrun, hs, hne, h1, hk, Lw, hU, hB⟩
  rintro i li w58 ⟨hi, hrun, hs, hne, h1, hk, Lw, hU, hB⟩
  refine q0 (lP 1 tK rfl (q1 (cS ?_)))
  refine cP _ rfl (fun c91 => ?_) (fun c91 => ?_)
  ·refine cK (xS (cS (cB (q0 (lP 1 tK rfl ?_)))))
   have hik : i < t.kids.length := by omega
   refine lC (o_ixS tK hk (gE hik) rfl rfl rfl rfl rfl rfl rfl rfl rfl ?_)
   intro ebx eox eux hyx hX
   obtain ⟨kvx, rfl, opx, nmx, n64x, hkx⟩ := tO hyx
   replace hX : At M w58 ebx eox [.int .u8 t.kids[i].op, .string t.kids[i].name, .int .i64 t.kids[i].n, kvx] := hX
   refine lC (oL tK (fun j v hv => hX.cell j v hv) rfl rfl rfl rfl rfl rfl ?_)
   refine lC (o_new tK rfl rfl rfl ?_)
   intro b5 w59 qb5 ew59 hb5
   have nb5 := nO Lw qb5
   refine lP 1 tK rfl ?_
   refine lC (o_st tK hb5 rfl rfl rfl rfl (Rep.one hyx) rfl rfl ?_)
   intro w60 h5 uw60 bew60
   have ew60 : Ext w58 w60 := ew59.trans (bew60 _ (lQ qb5.symm))
   replace hU := hU.trans (UpdB.Y ew60 hs.lt)
   replace hs := hs.Y Lw hB ew60
   replace h1 := h1.Y ew60
   replace hk := hk.Y ew60
   replace hyx := Rep.Y hyx ew60
   replace hkx := hkx.Y ew60
   replace hX := hX.Y ew60
   replace Lw := Lw.Y ew60
   replace hB := ew60.z hB
   replace h5 : Box w60 b5 25 [.int .u8 t.kids[i].op, .string t.kids[i].name, .int .i64 t.kids[i].n, kvx] := h5
   replace h5 := h5.at nb5
   refine q1 (q0 (lP 1 tK rfl ?_))
   refine lC (oL tK (fun j v hv => h5.cell j v hv) rfl rfl rfl rfl rfl rfl ?_)
   refine lP 1 tK rfl ?_
   refine lC (oD tK (h1.cell 0 _ rfl) rfl rfl rfl rfl rfl ?_)
   refine lP 2 tK rfl ?_
   refine lS 96 _ rfl (fun c92 => ?_) (fun c92 => ?_)
   ·refine lP 13 tK rfl ?_
    have hflag : kidRow t.op i = true := by clear ih; simp_all [kidRow]
    refine lC (oK fo64 rfl rfl rfl (ih _ (gM hik) true li M _ _ B b hyx hs Lw) ?_)
    rintro _ w61 ⟨rfl, hw61, uw61⟩
    have sw61 := uw61.sp hs.inM Lw hs.ge
    have frw61 := uw61.upd.2
    replace hU := hU.trans uw61
    replace h1 := h1.sp sw61
    replace hk := hk.sp sw61
    replace hyx := Rep.sp hyx sw61
    replace hkx := hkx.sp sw61
    replace hX := hX.sp sw61
    replace h5 := h5.sp sw61
    replace Lw := sw61.low
    replace hB := sw61.z hB
    replace hs := hw61
    refine lP 1 tK rfl (q1 ?_)
    refine c_ifB _ rfl (fun c93 => ?_) (fun c93 => ?_)
    ·refine q0 (lP 1 tK rfl (q1 (cR (xB (xR (xR (xB (xR (x1_ rfl rfl ?_)))))))))
     rw [rS hik, hflag] at hrun
     simp only [c93, cond_false] at hrun
     rw [← hrun]
     exact ⟨rfl, hs, hU⟩
    refine cK (x_blk (xS (cG ?_)))
    refine lC (o_ai rfl rfl rfl (by omega) rfl rfl ?_)
    refine lP 1 tK rfl (lN ?_)
    exact xN (i + 1) ((rightF t.kids[i] true li).2) (s5 rfl rfl rfl rfl rfl) ⟨by omega, by rw [rS hik, hflag] at hrun; simpa [c93] using hrun, hs, hne, h1, hk, Lw, hU, hB⟩ (by omega)
   refine lP 1 tK rfl ?_
   refine lC (oD tK (h1.cell 0 _ rfl) rfl rfl rfl rfl rfl ?_)
   refine lP 3 tK rfl ?_
   refine lS 101 _ rfl (fun c94 => ?_) (fun c94 => ?_)
   ·refine lP 8 tK rfl ?_
    have hflag : kidRow t.op i = true := by clear ih; simp_all [kidRow]
    refine lC (oK fo64 rfl rfl rfl (ih _ (gM hik) true li M _ _ B b hyx hs Lw) ?_)
    rintro _ w62 ⟨rfl, hw62, uw62⟩
    have sw62 := uw62.sp hs.inM Lw hs.ge
    have frw62 := uw62.upd.2
    replace hU := hU.trans uw62
    replace h1 := h1.sp sw62
    replace hk := hk.sp sw62
    replace hyx := Rep.sp hyx sw62
    replace hkx := hkx.sp sw62
    replace hX := hX.sp sw62
    replace h5 := h5.sp sw62
    replace Lw := sw62.low
    replace hB := sw62.z hB
    replace hs := hw62
    refine lP 1 tK rfl (q1 ?_)
    refine c_ifB _ rfl (fun c95 => ?_) (fun c95 => ?_)
    ·refine q0 (lP 1 tK rfl (q1 (cR (xB (xR (xR (xB (xR (x1_ rfl rfl ?_)))))))))
     rw [rS hik, hflag] at hrun
     simp only [c95, cond_false] at hrun
     rw [← hrun]
     exact ⟨rfl, hs, hU⟩
    refine cK (x_blk (xS (cG ?_)))
    refine lC (o_ai rfl rfl rfl (by omega) rfl rfl ?_)
    refine lP 1 tK rfl (lN ?_)
    exact xN (i + 1) ((rightF t.kids[i] true li).2) (s5 rfl rfl rfl rfl rfl) ⟨by omega, by rw [rS hik, hflag] at hrun; simpa [c95] using hrun, hs, hne, h1, hk, Lw, hU, hB⟩ (by omega)
   refine lP 1 tK rfl ?_
   refine lC (oD tK (h1.cell 0 _ rfl) rfl rfl rfl rfl rfl ?_)
   refine lP 2 tK rfl ?_
   refine lS 105 _ rfl (fun c96 => ?_) (fun c96 => ?_)
   ·refine lP 4 tK rfl ?_
    have hflag : kidRow t.op i = decide ((i : Int) = 1) := by clear ih; simp_all [kidRow]
    refine lC (oK fo64 rfl rfl rfl (ih _ (gM hik) (decide ((i : Int) = 1)) li M _ _ B b hyx hs Lw) ?_)
    rintro _ w63 ⟨rfl, hw63, uw63⟩
    have sw63 := uw63.sp hs.inM Lw hs.ge
    have frw63 := uw63.upd.2
    replace hU := hU.trans uw63
    replace h1 := h1.sp sw63
    replace hk := hk.sp sw63
    replace hyx := Rep.sp hyx sw63
    replace hkx := hkx.sp sw63
    replace hX := hX.sp sw63
    replace h5 := h5.sp sw63
    replace Lw := sw63.low
    replace hB := sw63.z hB
    replace hs := hw63
    refine lP 1 tK rfl (q1 ?_)
    refine c_ifB _ rfl (fun c97 => ?_) (fun c97 => ?_)
    ·refine q0 (lP 1 tK rfl (q1 (cR (xB (xR (xR (xB (xR (x1_ rfl rfl ?_)))))))))
     rw [rS hik, hflag] at hrun
     simp only [c97, cond_false] at hrun
     rw [← hrun]
     exact ⟨rfl, hs, hU⟩
    refine cK (x_blk (xS (cG ?_)))
    refine lC (o_ai rfl rfl rfl (by omega) rfl rfl ?_)
    refine lP 1 tK rfl (lN ?_)
    exact xN (i + 1) ((rightF t.kids[i] (decide ((i : Int) = 1)) li).2) (s5 rfl rfl rfl rfl rfl) ⟨by omega, by rw [rS hik, hflag] at hrun; simpa [c97] using hrun, hs, hne, h1, hk, Lw, hU, hB⟩ (by omega)
   refine lP 4 tK rfl ?_
   have hflag : kidRow t.op i = false := by clear ih; simp_all [kidRow]
   refine lC (oK fo64 rfl rfl rfl (ih _ (gM hik) false li M _ _ B b hyx hs Lw) ?_)
   rintro _ w64 ⟨rfl, hw64, uw64⟩
   have sw64 := uw64.sp hs.inM Lw hs.ge
   have frw64 := uw64.upd.2
   replace hU := hU.trans uw64
   replace h1 := h1.sp sw64
   replace hk := hk.sp sw64
   replace hyx := Rep.sp hyx sw64
   replace hkx := hkx.sp sw64
   replace hX := hX.sp sw64
   replace h5 := h5.sp sw64
   replace Lw := sw64.low
   replace hB := sw64.z hB
   replace hs := hw64
   refine lP 1 tK rfl (q1 ?_)
   refine c_ifB _ rfl (fun c98 => ?_) (fun c98 => ?_)
   ·refine q0 (lP 1 tK rfl (q1 (cR (xB (xR (xR (xB (xR (x1_ rfl rfl ?_)))))))))
    rw [rS hik, hflag] at hrun
    simp only [c98, cond_false] at hrun
    rw [← hrun]
    exact ⟨rfl, hs, hU⟩
   refine cK (x_blk (xS (cG ?_)))
   refine lC (o_ai rfl rfl rfl (by omega) rfl rfl ?_)
   refine lP 1 tK rfl (lN ?_)
   exact xN (i + 1) ((rightF t.kids[i] false li).2) (s5 rfl rfl rfl rfl rfl) ⟨by omega, by rw [rS hik, hflag] at hrun; simpa [c98] using hrun, hs, hne, h1, hk, Lw, hU, hB⟩ (by omega)
  refine c_exit (xE (xE (x_blkE (xS (q0 (lP 1 tK rfl (q1 (cR (x1_ rfl rfl ?_)))))))))
  rw [run_end (by omega)] at hrun
  rw [← hrun]
  exact ⟨rfl, hs, hU⟩
 refine lP 6 tK rfl (q1 (c_ifF rfl (cK (xS ?_))))
 refine c_cut (X := St) (fun li0 => [(0, .map (some b)), (4, .pointer (some ⟨b1, 0, none⟩))]) (fun li0 w' => runR (t.kids.map rightF) (kidRow t.op) 0 li0 = rightF t row l ∧ OM (κ := Int) (fun x : Bool => Value.bool x) B M w' b li0 ∧ b1 ≠ b ∧ At M w' b1 0 [.int .u8 t.op, .string t.name, .int .i64 t.n, kv] ∧ Sl M w' kv t.kids ∧ Low M w' ∧ UpdB b w w' ∧ B ≤ w'.heap.size) ?_ ?_
 ·refine q0 (lP 2 tK rfl ?_)
  refine l_split 75 _ rfl (fun c99 => ?_) (fun c99 => ?_)
  ·refine lP 2 tK rfl ?_
   refine lC (oD tK (h1.cell 2 _ rfl) rfl rfl rfl rfl rfl ?_)
   refine lP 1 tK rfl ?_
   have hpre : preR t.op row t.kids.length t.name t.n = true := by clear ih; rw [preR, hko]; unfold headOk; simp_all [numB] <;> omega
   refine lC (oK fo94 rfl rfl rfl (meet_spec M _ B b l t.n row hs Lw) ?_)
   rintro _ w66 ⟨rfl, hw66, uw66⟩
   have sw66 := uw66.sp hs.inM Lw hs.ge
   have frw66 := uw66.upd.2
   replace hU := hU.trans uw66
   replace ht := Rep.sp ht sw66
   replace hk := hk.sp sw66
   replace h1 := h1.sp sw66
   replace Lw := sw66.low
   replace hB := sw66.z hB
   replace hs := hw66
   refine lP 2 tK rfl (q1 ?_)
   refine c_ifB _ rfl (fun c100 => ?_) (fun c100 => ?_)
   ·refine q0 (lP 1 tK rfl (q1 (cR (xR (x1_ rfl rfl ?_)))))
    rw [right_meet_no hpre (by clear ih; simp_all) c100]
    exact ⟨rfl, hs, hU⟩
   refine cK ?_
   have hrun := (right_meet_yes (row := row) (s := l) hpre (by clear ih; simp_all) (by clear ih; simp_all)).symm
   exact x_cut ((meetS l t.n row).2) (s2 rfl rfl) ⟨hrun, hs, fun e => h1.nM (e ▸ hs.inM), h1, hk, Lw, hU, hB⟩
  refine lP 7 tK rfl (q1 (c_ifF rfl (cK ?_)))
  have hpre : preR t.op row t.kids.length t.name t.n = true := by clear ih; rw [preR, hko]; unfold headOk; simp_all [numB] <;> omega
  have hrun := (right_plain (row := row) (s := l) hpre (by clear ih; simp_all)).symm
  exact x_cut (l) (s2 rfl rfl) ⟨hrun, hs, fun e => h1.nM (e ▸ hs.inM), h1, hk, Lw, hU, hB⟩
 rintro li0 w65 ⟨hrun, hs, hne, h1, hk, Lw, hU, hB⟩
 refine cS (q0 (lP 1 tK rfl ?_))
 refine lC (oD tK (h1.cell 3 _ rfl) rfl rfl rfl rfl rfl ?_)
 refine lC (o_len tK hk rfl rfl rfl rfl rfl ?_)
 refine lP 1 tK rfl (q1 (cB ?_))
 refine c_loop2 (X := Nat) (Y := St) (fun i li => [(0, .map (some b)), (4, .pointer (some ⟨b1, 0, none⟩)), (84, kv), (85, .int .i64 (t.kids.length : Int)), (86, .int .i64 (i : Nat))]) (fun i li w' => i ≤ t.kids.length ∧ runR ((t.kids.drop i).map rightF) (kidRow t.op) i li = rightF t row l ∧ OM (κ := Int) (fun x : Bool => Value.bool x) B M w' b li ∧ b1 ≠ b ∧ At M w' b1 0 [.int .u8 t.op, .string t.name, .int .i64 t.n, kv] ∧ Sl M w' kv t.kids ∧ Low M w' ∧ UpdB b w w' ∧ B ≤ w'.heap.size) (fun i li => t.kids.length - i) (0) (li0) (s5 rfl rfl rfl rfl rfl) ?_ ?_
 ·exact ⟨Nat.zero_le _, by simpa using hrun, hs, hne, h1, hk, Lw, hU, hB⟩
 rintro i li w67 ⟨hi, hrun, hs, hne, h1, hk, Lw, hU, hB⟩
 refine q0 (lP 1 tK rfl (q1 (cS ?_)))
 refine cP _ rfl (fun c101 => ?_) (fun c101 => ?_)
 ·refine cK (xS (cS (cB (q0 (lP 1 tK rfl ?_)))))
  have hik : i < t.kids.length := by omega
  refine lC (o_ixS tK hk (gE hik) rfl rfl rfl rfl rfl rfl rfl rfl rfl ?_)
  intro ebx eox eux hyx hX
  obtain ⟨kvx, rfl, opx, nmx, n64x, hkx⟩ := tO hyx
  replace hX : At M w67 ebx eox [.int .u8 t.kids[i].op, .string t.kids[i].name, .int .i64 t.kids[i].n, kvx] := hX
  refine lC (oL tK (fun j v hv => hX.cell j v hv) rfl rfl rfl rfl rfl rfl ?_)
  refine lC (o_new tK rfl rfl rfl ?_)
  intro b5 w68 qb5 ew68 hb5
  have nb5 := nO Lw qb5
  refine lP 1 tK rfl ?_
  refine lC (o_st tK hb5 rfl rfl rfl rfl (Rep.one hyx) rfl rfl ?_)
  intro w69 h5 uw69 bew69
  have ew69 : Ext w67 w69 := ew68.trans (bew69 _ (lQ qb5.symm))
  replace hU := hU.trans (UpdB.Y ew69 hs.lt)
  replace hs := hs.Y Lw hB ew69
  replace h1 := h1.Y ew69
  replace hk := hk.Y ew69
  replace hyx := Rep.Y hyx ew69
  replace hkx := hkx.Y ew69
  replace hX := hX.Y ew69
  replace Lw := Lw.Y ew69
  replace hB := ew69.z hB
  replace h5 : Box w69 b5 25 [.int .u8 t.kids[i].op, .string t.kids[i].name, .int .i64 t.kids[i].n, kvx] := h5
  replace h5 := h5.at nb5
  refine q1 (q0 (lP 1 tK rfl ?_))
  refine lC (oL tK (fun j v hv => h5.cell j v hv) rfl rfl rfl rfl rfl rfl ?_)
  refine lP 1 tK rfl ?_
  refine lC (oD tK (h1.cell 0 _ rfl) rfl rfl rfl rfl rfl ?_)
  refine lP 2 tK rfl ?_
  refine lS 96 _ rfl (fun c102 => ?_) (fun c102 => ?_)
  ·refine lP 13 tK rfl ?_
   have hflag : kidRow t.op i = true := by clear ih; simp_all [kidRow]
   refine lC (oK fo64 rfl rfl rfl (ih _ (gM hik) true li M _ _ B b hyx hs Lw) ?_)
   rintro _ w70 ⟨rfl, hw70, uw70⟩
   have sw70 := uw70.sp hs.inM Lw hs.ge
   have frw70 := uw70.upd.2
   replace hU := hU.trans uw70
   replace h1 := h1.sp sw70
   replace hk := hk.sp sw70
   replace hyx := Rep.sp hyx sw70
   replace hkx := hkx.sp sw70
   replace hX := hX.sp sw70
   replace h5 := h5.sp sw70
   replace Lw := sw70.low
   replace hB := sw70.z hB
   replace hs := hw70
   refine lP 1 tK rfl (q1 ?_)
   refine c_ifB _ rfl (fun c103 => ?_) (fun c103 => ?_)
   ·refine q0 (lP 1 tK rfl (q1 (cR (xB (xR (xR (xB (xR (x1_ rfl rfl ?_)))))))))
    rw [rS hik, hflag] at hrun
    simp only [c103, cond_false] at hrun
    rw [← hrun]
    exact ⟨rfl, hs, hU⟩
   refine cK (x_blk (xS (cG ?_)))
   refine lC (o_ai rfl rfl rfl (by omega) rfl rfl ?_)
   refine lP 1 tK rfl (lN ?_)
   exact xN (i + 1) ((rightF t.kids[i] true li).2) (s5 rfl rfl rfl rfl rfl) ⟨by omega, by rw [rS hik, hflag] at hrun; simpa [c103] using hrun, hs, hne, h1, hk, Lw, hU, hB⟩ (by omega)
  refine lP 1 tK rfl ?_
  refine lC (oD tK (h1.cell 0 _ rfl) rfl rfl rfl rfl rfl ?_)
  refine lP 3 tK rfl ?_
  refine lS 101 _ rfl (fun c104 => ?_) (fun c104 => ?_)
  ·refine lP 8 tK rfl ?_
   have hflag : kidRow t.op i = true := by clear ih; simp_all [kidRow]
   refine lC (oK fo64 rfl rfl rfl (ih _ (gM hik) true li M _ _ B b hyx hs Lw) ?_)
   rintro _ w71 ⟨rfl, hw71, uw71⟩
   have sw71 := uw71.sp hs.inM Lw hs.ge
   have frw71 := uw71.upd.2
   replace hU := hU.trans uw71
   replace h1 := h1.sp sw71
   replace hk := hk.sp sw71
   replace hyx := Rep.sp hyx sw71
   replace hkx := hkx.sp sw71
   replace hX := hX.sp sw71
   replace h5 := h5.sp sw71
   replace Lw := sw71.low
   replace hB := sw71.z hB
   replace hs := hw71
   refine lP 1 tK rfl (q1 ?_)
   refine c_ifB _ rfl (fun c105 => ?_) (fun c105 => ?_)
   ·refine q0 (lP 1 tK rfl (q1 (cR (xB (xR (xR (xB (xR (x1_ rfl rfl ?_)))))))))
    rw [rS hik, hflag] at hrun
    simp only [c105, cond_false] at hrun
    rw [← hrun]
    exact ⟨rfl, hs, hU⟩
   refine cK (x_blk (xS (cG ?_)))
   refine lC (o_ai rfl rfl rfl (by omega) rfl rfl ?_)
   refine lP 1 tK rfl (lN ?_)
   exact xN (i + 1) ((rightF t.kids[i] true li).2) (s5 rfl rfl rfl rfl rfl) ⟨by omega, by rw [rS hik, hflag] at hrun; simpa [c105] using hrun, hs, hne, h1, hk, Lw, hU, hB⟩ (by omega)
  refine lP 1 tK rfl ?_
  refine lC (oD tK (h1.cell 0 _ rfl) rfl rfl rfl rfl rfl ?_)
  refine lP 2 tK rfl ?_
  refine lS 105 _ rfl (fun c106 => ?_) (fun c106 => ?_)
  ·refine lP 4 tK rfl ?_
   have hflag : kidRow t.op i = decide ((i : Int) = 1) := by clear ih; simp_all [kidRow]
   refine lC (oK fo64 rfl rfl rfl (ih _ (gM hik) (decide ((i : Int) = 1)) li M _ _ B b hyx hs Lw) ?_)
   rintro _ w72 ⟨rfl, hw72, uw72⟩
   have sw72 := uw72.sp hs.inM Lw hs.ge
   have frw72 := uw72.upd.2
   replace hU := hU.trans uw72
   replace h1 := h1.sp sw72
   replace hk := hk.sp sw72
   replace hyx := Rep.sp hyx sw72
   replace hkx := hkx.sp sw72
   replace hX := hX.sp sw72
   replace h5 := h5.sp sw72
   replace Lw := sw72.low
   replace hB := sw72.z hB
   replace hs := hw72
   refine lP 1 tK rfl (q1 ?_)
   refine c_ifB _ rfl (fun c107 => ?_) (fun c107 => ?_)
   ·refine q0 (lP 1 tK rfl (q1 (cR (xB (xR (xR (xB (xR (x1_ rfl rfl ?_)))))))))
    rw [rS hik, hflag] at hrun
    simp only [c107, cond_false] at hrun
    rw [← hrun]
    exact ⟨rfl, hs, hU⟩
   refine cK (x_blk (xS (cG ?_)))
   refine lC (o_ai rfl rfl rfl (by omega) rfl rfl ?_)
   refine lP 1 tK rfl (lN ?_)
   exact xN (i + 1) ((rightF t.kids[i] (decide ((i : Int) = 1)) li).2) (s5 rfl rfl rfl rfl rfl) ⟨by omega, by rw [rS hik, hflag] at hrun; simpa [c107] using hrun, hs, hne, h1, hk, Lw, hU, hB⟩ (by omega)
  refine lP 4 tK rfl ?_
  have hflag : kidRow t.op i = false := by clear ih; simp_all [kidRow]
  refine lC (oK fo64 rfl rfl rfl (ih _ (gM hik) false li M _ _ B b hyx hs Lw) ?_)
  rintro _ w73 ⟨rfl, hw73, uw73⟩
  have sw73 := uw73.sp hs.inM Lw hs.ge
  have frw73 := uw73.upd.2
  replace hU := hU.trans uw73
  replace h1 := h1.sp sw73
  replace hk := hk.sp sw73
  replace hyx := Rep.sp hyx sw73
  replace hkx := hkx.sp sw73
  replace hX := hX.sp sw73
  replace h5 := h5.sp sw73
  replace Lw := sw73.low
  replace hB := sw73.z hB
  replace hs := hw73
  refine lP 1 tK rfl (q1 ?_)
  refine c_ifB _ rfl (fun c108 => ?_) (fun c108 => ?_)
  ·refine q0 (lP 1 tK rfl (q1 (cR (xB (xR (xR (xB (xR (x1_ rfl rfl ?_)))))))))
   rw [rS hik, hflag] at hrun
   simp only [c108, cond_false] at hrun
   rw [← hrun]
   exact ⟨rfl, hs, hU⟩
  refine cK (x_blk (xS (cG ?_)))
  refine lC (o_ai rfl rfl rfl (by omega) rfl rfl ?_)
  refine lP 1 tK rfl (lN ?_)
  exact xN (i + 1) ((rightF t.kids[i] false li).2) (s5 rfl rfl rfl rfl rfl) ⟨by omega, by rw [rS hik, hflag] at hrun; simpa [c108] using hrun, hs, hne, h1, hk, Lw, hU, hB⟩ (by omega)
 refine c_exit (xE (xE (x_blkE (xS (q0 (lP 1 tK rfl (q1 (cR (x1_ rfl rfl ?_)))))))))
 rw [run_end (by omega)] at hrun
 rw [← hrun]
 exact ⟨rfl, hs, hU⟩
theorem kRight_spec (t : Ty) (M : Nat → Prop) (w : World) (v : Value) (ht : Rep.R M w v t) (hlow0 : Low M w) :
  Calls Try.prog 16 #[v] w (Ret fun r w' => r = .bool (rightF t false []).1 ∧ Ext w w') := by
 have Lw := hlow0
 have hB := lR w.heap.size
 have hE := Below.refl w.heap.size w
 have hsub : ∀ b, M b → M b := fun _ h => h
 obtain ⟨kv, rfl, op, nm, n64, hk⟩ := tO ht
 refine cN (n := 6) Try.func16 rfl rfl rfl ?_
 refine q0 ?_
 refine lC (o_box rfl rfl rfl ?_)
 intro b1 w1 hb_b1 ew1 h1
 replace h1 : Box _ b1 25 [.int .u8 t.op, .string t.name, .int .i64 t.n, kv] := h1
 replace h1 := h1.at (nO Lw hb_b1)
 replace hE := ew1.bl hE hB
 replace ht := Rep.Y ht ew1
 replace hk := hk.Y ew1
 replace Lw := Lw.Y ew1
 replace hB := ew1.z hB
 refine lP 1 tK rfl (q1 (q0 ?_))
 refine lC (o_mkmap (κ := Int) (ν := Bool) (va := (fun x : Bool => Value.bool x)) rfl rfl ?_)
 intro bm w2 qbm ew2 ltbm hbm
 have sw2 := Stp.add ew2 Lw hB (lQ qbm.symm) ltbm
 have hs : OM (κ := Int) (fun x : Bool => Value.bool x) w.heap.size (Rw.Add M bm) w2 bm [] := OM.mk' hbm qbm hB
 replace hE := hE.trans sw2.below
 replace ht := Rep.sp ht sw2
 replace hk := hk.sp sw2
 replace h1 := h1.sp sw2
 replace hsub := sw2.sb hsub
 replace Lw := sw2.low
 replace hB := sw2.z hB
 refine lC (oL tK (fun j v hv => h1.cell j v hv) rfl rfl rfl rfl rfl rfl ?_)
 refine lC (oK fo64 rfl rfl rfl (right_spec t false [] _ _ _ w.heap.size bm ht hs Lw) ?_)
 rintro _ w3 ⟨rfl, hw3, uw3⟩
 have sw3 := uw3.sp hs.inM Lw hs.ge
 have frw3 := uw3.upd.2
 replace hE := hE.trans sw3.below
 replace ht := Rep.sp ht sw3
 replace hk := hk.sp sw3
 replace h1 := h1.sp sw3
 replace hsub := sw3.sb hsub
 replace Lw := sw3.low
 replace hB := sw3.z hB
 refine lP 1 tK rfl (q1 (cR (x1_ rfl rfl ?_)))
 exact ⟨rfl, hE⟩
theorem kRow_spec (t : Ty) (M : Nat → Prop) (w : World) (v : Value) (ht : Rep.R M w v t) (hlow0 : Low M w) :
  Calls Try.prog 18 #[v] w (Ret fun r w' => r = .bool (rightF t true []).1 ∧ Ext w w') := by
 have Lw := hlow0
 have hB := lR w.heap.size
 have hE := Below.refl w.heap.size w
 have hsub : ∀ b, M b → M b := fun _ h => h
 obtain ⟨kv, rfl, op, nm, n64, hk⟩ := tO ht
 refine cN (n := 6) Try.func18 rfl rfl rfl ?_
 refine q0 ?_
 refine lC (o_box rfl rfl rfl ?_)
 intro b1 w1 hb_b1 ew1 h1
 replace h1 : Box _ b1 25 [.int .u8 t.op, .string t.name, .int .i64 t.n, kv] := h1
 replace h1 := h1.at (nO Lw hb_b1)
 replace hE := ew1.bl hE hB
 replace ht := Rep.Y ht ew1
 replace hk := hk.Y ew1
 replace Lw := Lw.Y ew1
 replace hB := ew1.z hB
 refine lP 1 tK rfl (q1 (q0 ?_))
 refine lC (o_mkmap (κ := Int) (ν := Bool) (va := (fun x : Bool => Value.bool x)) rfl rfl ?_)
 intro bm w2 qbm ew2 ltbm hbm
 have sw2 := Stp.add ew2 Lw hB (lQ qbm.symm) ltbm
 have hs : OM (κ := Int) (fun x : Bool => Value.bool x) w.heap.size (Rw.Add M bm) w2 bm [] := OM.mk' hbm qbm hB
 replace hE := hE.trans sw2.below
 replace ht := Rep.sp ht sw2
 replace hk := hk.sp sw2
 replace h1 := h1.sp sw2
 replace hsub := sw2.sb hsub
 replace Lw := sw2.low
 replace hB := sw2.z hB
 refine lC (oL tK (fun j v hv => h1.cell j v hv) rfl rfl rfl rfl rfl rfl ?_)
 refine lC (oK fo64 rfl rfl rfl (right_spec t true [] _ _ _ w.heap.size bm ht hs Lw) ?_)
 rintro _ w3 ⟨rfl, hw3, uw3⟩
 have sw3 := uw3.sp hs.inM Lw hs.ge
 have frw3 := uw3.upd.2
 replace hE := hE.trans sw3.below
 replace ht := Rep.sp ht sw3
 replace hk := hk.sp sw3
 replace h1 := h1.sp sw3
 replace hsub := sw3.sb hsub
 replace Lw := sw3.low
 replace hB := sw3.z hB
 refine lP 1 tK rfl (q1 (cR (x1_ rfl rfl ?_)))
 exact ⟨rfl, hE⟩
theorem either_spec (t : Ty) (M : Nat → Prop) (w : World) (v : Value) (ht : Rep.R M w v t) (Lw : Low M w) :
  Calls Try.prog 70 #[v] w (Ret fun r w' => r = .bool ((rightF t false []).1 || (rightF t true []).1) ∧ Ext w w') := by
 have hE := Below.refl w.heap.size w
 have hB := lR w.heap.size
 obtain ⟨kv, rfl, op, nm, n64, hk⟩ := tO ht
 refine cN (n := 9) Try.func70 rfl rfl rfl ?_
 refine q0 ?_
 refine lC (o_box rfl rfl rfl ?_)
 intro b1 w1 hb_b1 ew1 h1
 replace h1 : Box _ b1 25 [.int .u8 t.op, .string t.name, .int .i64 t.n, kv] := h1
 replace h1 := h1.at (nO Lw hb_b1)
 replace hE := ew1.bl hE hB
 replace ht := Rep.Y ht ew1
 replace hk := hk.Y ew1
 replace Lw := Lw.Y ew1
 replace hB := ew1.z hB
 refine lP 1 tK rfl (q1 (q0 ?_))
 refine lC (oL tK (fun j v hv => h1.cell j v hv) rfl rfl rfl rfl rfl rfl ?_)
 refine lC (oK fo16 rfl rfl rfl (kRight_spec t M _ _ ht Lw) ?_)
 rintro _ w2 ⟨rfl, ew2⟩
 replace hE := ew2.bl hE hB
 replace ht := Rep.Y ht ew2
 replace hk := hk.Y ew2
 replace h1 := h1.Y ew2
 replace Lw := Lw.Y ew2
 replace hB := ew2.z hB
 refine lP 1 tK rfl ?_
 refine l_split 5 _ rfl (fun c1 => ?_) (fun c1 => ?_)
 ·refine lP 4 tK rfl (q1 (cR (x1_ rfl rfl ?_)))
  exact ⟨by simp [c1], hE⟩
 refine lC (oL tK (fun j v hv => h1.cell j v hv) rfl rfl rfl rfl rfl rfl ?_)
 refine lC (oK fo18 rfl rfl rfl (kRow_spec t M _ _ ht Lw) ?_)
 rintro _ w3 ⟨rfl, ew3⟩
 replace hE := ew3.bl hE hB
 replace ht := Rep.Y ht ew3
 replace hk := hk.Y ew3
 replace h1 := h1.Y ew3
 replace Lw := Lw.Y ew3
 replace hB := ew3.z hB
 refine lP 2 tK rfl (q1 (cR (x1_ rfl rfl ?_)))
 exact ⟨by simp [c1], hE⟩
end Go.Proofs.Ytpoahmeacjggfaa
namespace Rw
open Go Go.RowKit
/-- A way to read values as types. -/
structure TData where
  R : (Nat → Prop) → World → Value → Ty → Prop
  size : ∀ {M w v x}, R M w v x → v.cells.size = 4
  one : ∀ {M w v x}, R M w v x → ∀ u ∈ v.cells.toList, u.oneCell' = true
  upd : ∀ {M w w' v x}, R M w v x → Upd M w w' → R M w' v x
  wk : ∀ {M M' w v x}, R M w v x → (∀ b, b < w.heap.size → M' b → M b) → R M' w v x
@[reducible] def TData.rep (d : TData) : Rep Ty where
  sz := 4
  R := d.R
  pos := by decide
  size := d.size
  one := d.one
  upd := d.upd
  wk := d.wk
/-- .. by which a type's value is as ever, and its kids read in the same way. -/
class TRep where
  d : TData
  op : ∀ {M w v t}, d.R M w v t → ∃ kv, v = .agg #[.int .u8 t.op, .string t.name, .int .i64 t.n, kv] ∧ (0 ≤ t.op ∧ t.op ≤ 255) ∧ t.name.size < 140737488355328 ∧ I64 t.n ∧ @Sl Ty d.rep M w kv t.kids
instance (priority := high) tyG [TRep] : Rep Ty := TRep.d.rep
theorem tyg_open [TRep] {M : Nat → Prop} {w : World} {v : Value} {t : Ty} (h : Rep.R M w v t) :
    ∃ kv, v = .agg #[.int .u8 t.op, .string t.name, .int .i64 t.n, kv] ∧ (0 ≤ t.op ∧ t.op ≤ 255) ∧ t.name.size < 140737488355328 ∧ I64 t.n ∧ Sl M w kv t.kids := TRep.op h
instance (priority := high) fldG [TRep] : Rep Fld where
  sz := 5
  R := fun M w v f => f.name.size < 140737488355328 ∧ ∃ kv, v = .agg #[.string f.name, .int .u8 f.ty.op, .string f.ty.name, .int .i64 f.ty.n, kv] ∧ Rep.R M w (.agg #[.int .u8 f.ty.op, .string f.ty.name, .int .i64 f.ty.n, kv]) f.ty
  pos := by decide
  size := by rintro M w v x ⟨_, kv, rfl, _⟩; rfl
  one := by
    rintro M w v x ⟨_, kv, rfl, h⟩ u hu
    have := Rep.one h
    simp [Value.cells] at hu this
    rcases hu with rfl | rfl | rfl | rfl | rfl
    · rfl
    · rfl
    · rfl
    · rfl
    · exact this.2.2.2
  upd := fun ⟨h0, kv, h1, h2⟩ e => ⟨h0, kv, h1, Rep.upd h2 e⟩
  wk := fun ⟨h0, kv, h1, h2⟩ e => ⟨h0, kv, h1, Rep.wk h2 e⟩
theorem fldg_open [TRep] {M : Nat → Prop} {w : World} {v : Value} {f : Fld} (h : Rep.R M w v f) :
    f.name.size < 140737488355328 ∧ ∃ kv, v = .agg #[.string f.name, .int .u8 f.ty.op, .string f.ty.name, .int .i64 f.ty.n, kv] ∧ Rep.R M w (.agg #[.int .u8 f.ty.op, .string f.ty.name, .int .i64 f.ty.n, kv]) f.ty := h
theorem fldg_mk [TRep] {M : Nat → Prop} {w : World} {kv : Value} {name : ByteArray} {t : Ty} (h0 : name.size < 140737488355328) (h : Rep.R M w (.agg #[.int .u8 t.op, .string t.name, .int .i64 t.n, kv]) t) :
    Rep.R M w (.agg #[.string name, .int .u8 t.op, .string t.name, .int .i64 t.n, kv]) (⟨name, t⟩ : Fld) := ⟨h0, kv, rfl, h⟩
/-- Nothing more is asked. -/
@[reducible] def stdT : TRep where
  d := ⟨fun M w v t => TyR M w t v, fun h => Rep.size (α := Ty) h, fun h => Rep.one (α := Ty) h, fun h e => Rep.upd (α := Ty) h e, fun h e => Rep.wk (α := Ty) h e⟩
  op := fun h => tO h
open Go Go.RowKit
section
variable {P : Program} {T : Tab} {n : Nat} {ops : Array Oper} {Q : Exit → Act → World → Prop} {G : Env} {w : World} {K : Env → World → Prop}
  {d ty : Nat} {pos : String} {af : Array Go.Edge} {g : Option (Nat × Bool)}
theorem o_ext {f : FuncId} {args : Array Operand} {tys : Array TypeId} {vs : List Value} {v : Value} (hv : Env.evs G args.toList = some vs) (hc : (callFunc f vs.toArray).run P w = .ok (.value v) w)
    (hg : gd ops G ⟨some d, .call ⟨.value (.func f), args, tys⟩, ty, pos, af, g⟩ = some true) (hdn : Nat.blt d n = true) (h : K ((d, v) :: G) w) : OW P n ops Q G w ⟨some d, .call ⟨.value (.func f), args, tys⟩, ty, pos, af, g⟩ K := by
  refine o_val hg rfl hdn (fun a ha => ?_) h
  have e : args.map a.eval = vs.toArray := array_of_toList (by simp [ha.evs hv])
  simp [execOp, resolve, e, Deferred.ofValue, Act.eval, invoke, hc]
end
open Go Go.RowKit
/-- From one world to another by steps that write M alone. -/
def Sof (B : Nat) (M : Nat → Prop) (w w' : World) : Prop := ∃ M', Stp B M M' w w'
theorem At.so {B : Nat} {M : Nat → Prop} {w w' : World} {b off : Nat} {cs : List Value} (h : At M w b off cs) (s : Sof B M w w') : OAt w' b off cs := let ⟨_, s⟩ := s; ⟨(h.sp s).cell⟩
/-- .. and leave one block as it is. -/
def Sof2 (B : Nat) (M : Nat → Prop) (b : Nat) (w w' : World) : Prop := Sof B M w w' ∧ w'.heap[b]? = w.heap[b]?
theorem At.so2 {B k : Nat} {M : Nat → Prop} {w w' : World} {b off : Nat} {cs : List Value} (h : At M w b off cs) (s : Sof2 B M k w w') : OAt w' b off cs := h.so s.1
theorem Box.so2 {B : Nat} {M : Nat → Prop} {w w' : World} {b T : Nat} {cs : List Value} (h : Box w b T cs) (s : Sof2 B M b w w') : Box w' b T cs := ⟨s.2.trans h.heap⟩
section
variable {P : Program} {T : Tab} {n : Nat} {ops : Array Oper} {Q : Exit → Act → World → Prop} {S : World → Prop} {G : Env} {w : World} {l : List Nat} {fuel : Nat}
theorem a_ixO {α : Type} [Rep α] {M : Nat → Prop} {w0 : World} {v : Value} {k : List α} {B : Nat} {t : TypeId} {x ix : Operand} {kd : IntKind} {z : Int} {j : Nat} {y : α} {ti te : TI} {e : Nat} {d ty : Nat} {pos : String} {af : Array Go.Edge} {g : Option (Nat × Bool)} (i : Nat) (hT : TabOk P T) (hs : OwnSl e B M w0 v k) (hy : k[j]? = some y) (hi : ops[i]? = some ⟨some d, .indexAddr t x ix, ty, pos, af, g⟩)
    (hx : Env.ev G x = some v) (hix : Env.ev G ix = some (.int kd z)) (hj : z = (j : Int)) (ht : T.get t = some ti) (htd : ti.d = .sl e) (hte : T.get e = some te) (hsz : te.size = Rep.sz α)
    (hg : gd ops G ⟨some d, .indexAddr t x ix, ty, pos, af, g⟩ = some true) (hdn : Nat.blt d n = true) (hr : okTake ops l i = true) (hQ : ∀ v c a w, Q (.panic c) (a.put (some d) v) w → Q (.panic c) a w) (hS : S w)
    (h : ∀ b u, v.ownBlock = some b → Rep.R M w0 u y → OAt w0 b (j * te.size) u.cells.toList → WA P n ops Q S ((d, .pointer (some ⟨b, j * te.size, none⟩)) :: G) w fuel (l ++ [i])) : WA P n ops Q S G w (fuel + 1) l := by
  obtain ⟨us, hrow, hrs⟩ := hs.row
  have hlt : j < k.length := (List.getElem?_eq_some_iff.1 hy).1
  obtain ⟨u, hu, hR⟩ := hrs.get hy
  rcases hrow.2 with ⟨rfl, hn⟩ | ⟨b, cap, cur, rfl, _, _, _⟩
  · omega
  · have hd := (hT t _ ht).d
    rw [htd] at hd
    simp only [TD.Ok] at hd
    subst hj
    have hb : (0 : Int) ≤ (j : Int) ∧ (j : Int) < (k.length : Int) := by omega
    refine a_q (v := .pointer (some ⟨b, j * te.size, none⟩)) i hi rfl hg hdn hr (hQ _) (fun a' ha' w' _ => ?_) hS (h b u rfl hR ⟨fun c q hc => ?_⟩)
    · simp [execOp, ha'.ev hx, ha'.ev hix, Instr.indexAt, asIntOf, run_underlying hd, hb, run_sizeOf hT hte, addr_add]
      intro hge
      omega
    · have := hrow.cells (g := b) rfl (j * Rep.sz α + c) q (hrs.flat_get hu c q hc)
      rw [addr_add, Nat.zero_add] at this
      rw [hsz]; exact this
theorem a_build {t : Nat} {ps : Array (Nat × Operand)} {vs : List Value} {css : List (List Value)} {zero cells : List Value} {pl : List (Nat × Nat)} {d ty : Nat} {pos : String} {af : Array Go.Edge} {g : Option (Nat × Bool)} (i : Nat) (hb : BuildOk P t zero pl) (hi : ops[i]? = some ⟨some d, .build t ps, ty, pos, af, g⟩) (hv : Env.evs G (ps.toList.map (·.2)) = some vs) (hcs : vs.map (·.cells.toList) = css)
    (hf : fillL pl zero ((ps.toList.map (·.1)).zip css) = some cells)
    (hg : gd ops G ⟨some d, .build t ps, ty, pos, af, g⟩ = some true) (hdn : Nat.blt d n = true) (hr : okTake ops l i = true) (hQ : ∀ c a w, Q (.panic c) (a.put (some d) (.agg cells.toArray)) w → Q (.panic c) a w) (hS : S w)
    (h : WA P n ops Q S ((d, .agg cells.toArray) :: G) w fuel (l ++ [i])) : WA P n ops Q S G w (fuel + 1) l :=
  a_q i hi rfl hg hdn hr hQ (fun _ ha w' _ => run_build hb hv hcs hf ha w') hS h
theorem a_ar {bop : BinOp} {t t' : TypeId} {x y : Operand} {k : IntKind} {p q r z : Int} {d ty : Nat} {pos : String} {af : Array Go.Edge} {g : Option (Nat × Bool)} (i : Nat) (hi : ops[i]? = some ⟨some d, .binOp bop t x y t', ty, pos, af, g⟩) (hx : Env.ev G x = some (.int k p)) (hy : Env.ev G y = some (.int k q)) (hr : arI bop p q = some r) (hz : k.wrap r = z)
    (hg : gd ops G ⟨some d, .binOp bop t x y t', ty, pos, af, g⟩ = some true) (hdn : Nat.blt d n = true) (hk : okTake ops l i = true) (hQ : ∀ c a w, Q (.panic c) (a.put (some d) (.int k z)) w → Q (.panic c) a w) (hS : S w)
    (h : WA P n ops Q S ((d, .int k z) :: G) w fuel (l ++ [i])) : WA P n ops Q S G w (fuel + 1) l := by
  refine a_q (v := .int k z) i hi rfl hg hdn hk hQ (fun a ha w' _ => ?_) hS h
  cases bop <;> simp [arI] at hr <;> subst hr <;> subst hz <;> simp [execOp, ha.ev hx, ha.ev hy, eqGuard, binOp, Op.intArith]
end
def sortC (row : Bool) : UInt8 := if row then 114 else 116
def runM : List (Int × Bool) → St → Bool × St
  | [], s => (true, s)
  | p :: l, s => bif (meetS s p.1 p.2).1 then runM l (meetS s p.1 p.2).2 else (false, (meetS s p.1 p.2).2)
theorem runM_append : ∀ (a b : List (Int × Bool)) (s : St), runM (a ++ b) s = bif (runM a s).1 then runM b (runM a s).2 else runM a s
  | [], b, s => rfl
  | p :: a, b, s => by
    simp only [List.cons_append, runM]
    cases h : (meetS s p.1 p.2).1 with
    | true => simp only [cond_true]; exact runM_append a b _
    | false => rfl
/-- The variables, in order. -/
def varP (x : Ty) : List (Int × Bool) := bif numB x.op then [(x.n, decide (x.op = 10))] else []
def varsL (t : Ty) : List (Int × Bool) := (partsL t).flatMap varP
theorem varsL_eq (t : Ty) : varsL t = varP t ++ t.kids.flatMap varsL := by
  unfold varsL
  rw [partsL_eq, List.flatMap_cons, List.flatMap_assoc]
theorem kid_sort {op : Int} {ks : ByteArray} (h : kidsOf op = some ks) {j : Nat} {d : UInt8} (hd : ks.data[j]? = some d) : d = sortC (kidRow op j) := by
  unfold kidsOf at h
  split at h
  · cases h; simp at hd
  · split at h
    · rename_i h4
      cases h
      match j, hd with
      | 0, hd => simp at hd; subst hd; simp [kidRow, h4, sortC]
      | 1, hd => simp at hd; subst hd; simp [kidRow, h4, sortC]
      | j + 2, hd => simp at hd
    · split at h
      · rename_i h5
        cases h
        match j, hd with
        | 0, hd => simp at hd; subst hd; rcases h5 with h5 | h5 <;> simp [kidRow, h5, sortC]
        | j + 1, hd => simp at hd
      · split at h
        · rename_i h11
          cases h
          match j, hd with
          | 0, hd => simp at hd; subst hd; simp [kidRow, h11, sortC]
          | 1, hd => simp at hd; subst hd; simp [kidRow, h11, sortC]
          | j + 2, hd => simp at hd
        · cases h
theorem sortC_row (row : Bool) : decide (((sortC row).toNat : Int) = 114) = row := by cases row <;> rfl
theorem pre_of_shape {t : Ty} {row : Bool} (h : shapeF t (sortC row) = true) : preR t.op row t.kids.length t.name t.n = true ∧ ∃ ks, kidsOf t.op = some ks ∧ t.kids.length = ks.size ∧ all2 (t.kids.map shapeF) ks.data.toList = true := by
  cases hk : kidsOf t.op with
  | none => rw [shape_none hk] at h; cases h
  | some ks =>
    by_cases hl : t.kids.length = ks.size
    · rw [shape_some hk, sortC_row] at h
      rw [Bool.and_eq_true, Bool.and_eq_true] at h
      refine ⟨?_, ks, rfl, hl, h.2.2⟩
      rw [preR, hk]
      have h1 := h.1
      rw [beq_iff_eq] at h1
      simp [hl, h.2.1, h1]
    · rw [shape_len hk hl] at h; cases h
theorem all2_get : ∀ {fs : List (UInt8 → Bool)} {cs : List UInt8}, all2 fs cs = true → ∀ {j : Nat} {f : UInt8 → Bool} {c : UInt8}, fs[j]? = some f → cs[j]? = some c → f c = true := by
  intro fs cs h j f c hf hc
  cases hfc : f c with
  | true => rfl
  | false => rw [all2_false hf hc hfc] at h; cases h
theorem right_shape : ∀ (t : Ty) (row : Bool) (s : St), shapeF t (sortC row) = true → rightF t row s = runM (varsL t) s := by
  refine Ty.ind fun t ih => ?_
  intro row s h
  obtain ⟨hpre, ks, hk, hl, hall⟩ := pre_of_shape h
  have kids : ∀ (l : List Ty) (i : Nat), (∀ x ∈ l, x ∈ t.kids) → (∀ (j : Nat) x, l[j]? = some x → shapeF x (sortC (kidRow t.op (i + j))) = true) → ∀ s, runR (l.map rightF) (kidRow t.op) i s = runM (l.flatMap varsL) s := by
    intro l
    induction l with
    | nil => intro i _ _ s; rfl
    | cons x l ihl =>
      intro i hm hs s
      have hx := ih x (hm x List.mem_cons_self) (kidRow t.op i) s (by simpa using hs 0 x rfl)
      rw [List.map_cons, runR, hx, List.flatMap_cons, runM_append]
      rw [ihl (i + 1) (fun y hy => hm y (List.mem_cons_of_mem _ hy)) (fun j y hy => by have := hs (j + 1) y (by simpa using hy); rwa [show i + 1 + j = i + (j + 1) by omega])]
      cases hb : (runM (varsL x) s).1 with
      | true => rfl
      | false => simp only [cond_false]; rw [← hb]
  have hks : ∀ s, runR (t.kids.map rightF) (kidRow t.op) 0 s = runM (t.kids.flatMap varsL) s := by
    refine kids t.kids 0 (fun x hx => hx) (fun j x hx => ?_)
    have hj : j < ks.data.size := by have := (List.getElem?_eq_some_iff.1 hx).1; rw [size_data]; omega
    have hd : ks.data[j]? = some ks.data[j] := Array.getElem?_eq_getElem hj
    have := all2_get hall (j := j) (f := shapeF x) (c := ks.data[j]) (by rw [List.getElem?_map, hx]; rfl) (by simp)
    rw [kid_sort hk hd] at this
    simpa using this
  rw [varsL_eq, runM_append]
  cases hn : numB t.op with
  | false =>
    rw [right_plain hpre hn, hks]
    simp [varP, hn, runM]
  | true =>
    have hrow : row = decide (t.op = 10) := by
      have h1 := hpre
      rw [preR, hk] at h1
      simp only [Bool.and_eq_true, beq_iff_eq] at h1
      rw [h1.1]
      simp only [numB, Bool.or_eq_true, decide_eq_true_eq] at hn
      rcases hn with hn | hn <;> simp [hn]
    cases hm : (meetS s t.n row).1 with
    | true =>
      rw [right_meet_yes hpre hn hm, hks]
      simp [varP, hn, runM, ← hrow, hm]
    | false =>
      rw [right_meet_no hpre hn hm]
      simp [varP, hn, runM, ← hrow, hm]
theorem shape_right : ∀ (t : Ty) (row : Bool) (s : St), (rightF t row s).1 = true → shapeF t (sortC row) = true := by
  refine Ty.ind fun t ih => ?_
  intro row s h
  cases hpre : preR t.op row t.kids.length t.name t.n with
  | false => rw [right_pre_no hpre] at h; cases h
  | true =>
    have hrun : ∃ s', (runR (t.kids.map rightF) (kidRow t.op) 0 s').1 = true := by
      cases hn : numB t.op with
      | false => rw [right_plain hpre hn] at h; exact ⟨_, h⟩
      | true =>
        cases hm : (meetS s t.n row).1 with
        | true => rw [right_meet_yes hpre hn hm] at h; exact ⟨_, h⟩
        | false => rw [right_meet_no hpre hn hm] at h; cases h
    obtain ⟨s', hrun⟩ := hrun
    have kids : ∀ (l : List Ty) (i : Nat) (s : St), (∀ x ∈ l, x ∈ t.kids) → (runR (l.map rightF) (kidRow t.op) i s).1 = true → ∀ (j : Nat) x, l[j]? = some x → shapeF x (sortC (kidRow t.op (i + j))) = true := by
      intro l
      induction l with
      | nil => intro i s _ _ j x hx; simp at hx
      | cons y l ihl =>
        intro i s hm hr j x hx
        rw [List.map_cons, runR] at hr
        cases hy : (rightF y (kidRow t.op i) s).1 with
        | false => rw [hy] at hr; cases hr
        | true =>
          rw [hy] at hr
          cases j with
          | zero =>
            simp at hx; subst hx
            exact ih y (hm y List.mem_cons_self) _ _ hy
          | succ j =>
            have := ihl (i + 1) _ (fun z hz => hm z (List.mem_cons_of_mem _ hz)) hr j x (by simpa using hx)
            rwa [show i + (j + 1) = i + 1 + j by omega]
    have hsh := kids t.kids 0 s' (fun x hx => hx) hrun
    rw [preR] at hpre
    cases hk : kidsOf t.op with
    | none => rw [hk] at hpre; cases hpre
    | some ks =>
      rw [hk] at hpre
      simp only [Bool.and_eq_true, beq_iff_eq, decide_eq_true_eq] at hpre
      refine shape_yes hk hpre.2.1 ?_ hpre.2.2 (fun j x d hx hd => ?_)
      · rw [sortC_row, beq_iff_eq]; exact hpre.1.symm
      · rw [kid_sort hk hd]; simpa using hsh j x hx
theorem meet_true {s : St} {n : Int} {row : Bool} : (meetS s n row).1 = true ↔ ∀ b, getK s n = some b → b = row := by
  unfold meetS
  cases h : getK s n with
  | none => simp
  | some b => simp
theorem meet_st (s : St) (n : Int) (row : Bool) : (meetS s n row).2 = putK s n row := rfl
theorem runM_true : ∀ (vs : List (Int × Bool)) (s : St), (runM vs s).1 = true ↔ (∀ p ∈ vs, ∀ b, getK s p.1 = some b → b = p.2) ∧ ∀ p ∈ vs, ∀ q ∈ vs, p.1 = q.1 → p.2 = q.2
  | [], s => by simp [runM]
  | p :: l, s => by
    have ih := runM_true l (putK s p.1 p.2)
    rw [runM]
    cases hm : (meetS s p.1 p.2).1 with
    | false =>
      simp only [cond_false, Bool.false_eq_true, false_iff]
      rintro ⟨h1, _⟩
      have := meet_true.2 (h1 p List.mem_cons_self)
      rw [hm] at this; cases this
    | true =>
      have h0 := meet_true.1 hm
      simp only [cond_true, meet_st]
      rw [ih]
      constructor
      · rintro ⟨h1, h2⟩
        have key : ∀ q ∈ l, p.1 = q.1 → p.2 = q.2 := fun q hq e => h1 q hq p.2 (by rw [getK_put, if_pos e.symm])
        refine ⟨fun q hq b hb => ?_, fun q hq r hr e => ?_⟩
        · rcases List.mem_cons.1 hq with rfl | hq
          · exact h0 b hb
          · by_cases e : q.1 = p.1
            · rw [← key q hq e.symm]; exact h0 b (e ▸ hb)
            · exact h1 q hq b (by rw [getK_put, if_neg e]; exact hb)
        · rcases List.mem_cons.1 hq with hqp | hq'
          · subst hqp
            rcases List.mem_cons.1 hr with hrp | hr'
            · rw [hrp]
            · exact key r hr' e
          · rcases List.mem_cons.1 hr with hrp | hr'
            · subst hrp; exact (key q hq' e.symm).symm
            · exact h2 q hq' r hr' e
      · rintro ⟨h1, h2⟩
        refine ⟨fun q hq b hb => ?_, fun q hq r hr e => h2 q (List.mem_cons_of_mem _ hq) r (List.mem_cons_of_mem _ hr) e⟩
        rw [getK_put] at hb
        by_cases e : q.1 = p.1
        · rw [if_pos e] at hb
          cases hb
          exact h2 p List.mem_cons_self q (List.mem_cons_of_mem _ hq) e.symm
        · rw [if_neg e] at hb
          exact h1 q (List.mem_cons_of_mem _ hq) b hb
theorem mem_vars {t : Ty} {p : Int × Bool} : p ∈ varsL t ↔ ∃ x ∈ partsL t, numB x.op = true ∧ p = (x.n, decide (x.op = 10)) := by
  unfold varsL
  rw [List.mem_flatMap]
  constructor
  · rintro ⟨x, hx, hp⟩
    unfold varP at hp
    cases hn : numB x.op with
    | false => rw [hn] at hp; simp at hp
    | true => rw [hn] at hp; simp at hp; exact ⟨x, hx, hn, hp⟩
  · rintro ⟨x, hx, hn, rfl⟩
    exact ⟨x, hx, by simp [varP, hn]⟩
theorem once_true {t : Ty} : onceB t = true ↔ ∀ x ∈ partsL t, ∀ y ∈ partsL t, ¬ (x.op = 7 ∧ y.op = 10 ∧ x.n = y.n) := by
  unfold onceB
  rw [List.all_eq_true]
  constructor
  · intro h x hx y hy hc
    have h1 := h x hx
    rw [List.all_eq_true] at h1
    have h2 := h1 y hy
    simp [hc.1, hc.2.1, hc.2.2] at h2
  · intro h x hx
    rw [List.all_eq_true]
    intro y hy
    have := h x hx y hy
    rw [Bool.not_eq_true', Bool.eq_false_iff]
    intro h0
    simp only [Bool.and_eq_true, decide_eq_true_eq] at h0
    exact this h0
theorem vars_once {t : Ty} : (∀ p ∈ varsL t, ∀ q ∈ varsL t, p.1 = q.1 → p.2 = q.2) ↔ onceB t = true := by
  rw [once_true]
  constructor
  · intro h x hx y hy ⟨h7, h10, hn⟩
    have := h (x.n, decide (x.op = 10)) (mem_vars.2 ⟨x, hx, by simp [numB, h7], rfl⟩) (y.n, decide (y.op = 10)) (mem_vars.2 ⟨y, hy, by simp [numB, h10], rfl⟩) hn
    simp [h7, h10] at this
  · intro h p hp q hq e
    obtain ⟨x, hx, hnx, rfl⟩ := mem_vars.1 hp
    obtain ⟨y, hy, hny, rfl⟩ := mem_vars.1 hq
    simp only at e
    simp only [numB, Bool.or_eq_true, decide_eq_true_eq] at hnx hny
    rcases hnx with h1 | h1 <;> rcases hny with h2 | h2
    · simp [h1, h2]
    · exact absurd ⟨h1, h2, e⟩ (h x hx y hy)
    · exact absurd ⟨h2, h1, e.symm⟩ (h y hy x hx)
    · simp [h1, h2]
theorem right_law (t : Ty) (row : Bool) : (rightF t row []).1 = (shapeF t (sortC row) && onceB t) := by
  rw [Bool.eq_iff_iff, Bool.and_eq_true]
  constructor
  · intro h
    have hs := shape_right t row [] h
    rw [right_shape t row [] hs, runM_true] at h
    exact ⟨hs, vars_once.1 h.2⟩
  · rintro ⟨hs, ho⟩
    rw [right_shape t row [] hs, runM_true]
    exact ⟨fun p _ b hb => by simp [getK] at hb, vars_once.2 ho⟩
theorem rightB_law (t : Ty) : (rightF t false []).1 = rightB t := right_law t false
theorem rowB_law (t : Ty) : (rightF t true []).1 = rowB t := right_law t true
abbrev cmpN (a b : ByteArray) : Int := Go.Lib.compareBytes a.data.toList b.data.toList
theorem cmpB_refl : ∀ a : List UInt8, Go.Lib.compareBytes a a = 0
  | [] => rfl
  | x :: a => by
    have : ¬ x < x := by simp
    rw [Go.Lib.compareBytes, if_neg this, if_neg this]; exact cmpB_refl a
theorem cmpB_flip : ∀ a b : List UInt8, Go.Lib.compareBytes b a = - Go.Lib.compareBytes a b
  | [], [] => rfl
  | [], _ :: _ => rfl
  | _ :: _, [] => rfl
  | x :: a, y :: b => by
    simp only [Go.Lib.compareBytes]
    by_cases h : x < y
    · have h2 : ¬ y < x := UInt8.lt_asymm h
      simp [h, h2]
    · by_cases h2 : y < x
      · simp [h, h2]
      · simp [h, h2, cmpB_flip a b]
theorem cmpB_eq : ∀ {a b : List UInt8}, Go.Lib.compareBytes a b = 0 → a = b
  | [], [], _ => rfl
  | [], _ :: _, h => by simp [Go.Lib.compareBytes] at h
  | _ :: _, [], h => by simp [Go.Lib.compareBytes] at h
  | x :: a, y :: b, h => by
    simp only [Go.Lib.compareBytes] at h
    by_cases h1 : x < y
    · simp [h1] at h
    · by_cases h2 : y < x
      · simp [h1, h2] at h
      · simp [h1, h2] at h
        have : x = y := UInt8.le_antisymm (UInt8.not_lt.1 h2) (UInt8.not_lt.1 h1)
        rw [this, cmpB_eq h]
theorem cmpB_trans : ∀ {a b c : List UInt8}, Go.Lib.compareBytes a b < 0 → Go.Lib.compareBytes b c < 0 → Go.Lib.compareBytes a c < 0
  | [], [], _, h, _ => by simp [Go.Lib.compareBytes] at h
  | _ :: _, [], _, h, _ => by simp [Go.Lib.compareBytes] at h
  | [], _ :: _, [], _, k => by simp [Go.Lib.compareBytes] at k
  | [], _ :: _, _ :: _, _, _ => by simp [Go.Lib.compareBytes]
  | _ :: _, _ :: _, [], _, k => by simp [Go.Lib.compareBytes] at k
  | x :: a, y :: b, z :: c, h, k => by
    simp only [Go.Lib.compareBytes] at h k ⊢
    by_cases h1 : x < y
    · by_cases k1 : y < z
      · simp [UInt8.lt_trans h1 k1]
      · by_cases k2 : z < y
        · simp [k1, k2] at k
        · have : y = z := UInt8.le_antisymm (UInt8.not_lt.1 k2) (UInt8.not_lt.1 k1)
          subst this; simp [h1]
    · by_cases h2 : y < x
      · simp [h1, h2] at h
      · have : x = y := UInt8.le_antisymm (UInt8.not_lt.1 h2) (UInt8.not_lt.1 h1)
        subst this
        simp [h1] at h
        by_cases k1 : x < z
        · simp [k1]
        · by_cases k2 : z < x
          · simp [k1, k2] at k
          · simp [k1, k2] at k ⊢
            exact cmpB_trans h k
theorem cmpN_eq {a b : ByteArray} : cmpN a b = 0 ↔ a = b := by
  constructor
  · intro h
    have := cmpB_eq h
    cases a; cases b
    simp only [ByteArray.mk.injEq]
    exact Array.toList_inj.1 this
  · rintro rfl; exact cmpB_refl _
theorem cmpN_flip (a b : ByteArray) : cmpN b a = - cmpN a b := cmpB_flip _ _
/-- a doesn't belong behind b. -/
def leN (a b : ByteArray) : Prop := ¬ cmpN b a < 0
theorem leN_refl (a : ByteArray) : leN a a := by unfold leN; rw [cmpN_eq.2 rfl]; simp
theorem leN_trans {a b c : ByteArray} (h : leN a b) (k : leN b c) : leN a c := by
  unfold leN at *
  intro hca
  by_cases e : a = b
  · subst e; exact k hca
  · have hab : cmpN a b < 0 := by
      have h1 : cmpN a b ≠ 0 := fun e' => e (cmpN_eq.1 e')
      have h2 := cmpN_flip a b
      omega
    exact k (cmpB_trans hca hab)
theorem leN_antisymm {a b : ByteArray} (h : leN a b) (k : leN b a) : a = b := by
  unfold leN at *
  have h2 := cmpN_flip a b
  exact cmpN_eq.1 (by omega)
theorem leN_of_lt {a b : ByteArray} (h : cmpN a b < 0) : leN a b := by
  unfold leN
  have h2 := cmpN_flip a b
  omega
/-- In order. -/
def Srt (l : List Fld) : Prop := l.Pairwise fun x y => leN x.name y.name
/-- The same, name by name, in the same order. -/
def StP (l k : List Fld) : Prop := ∀ s : ByteArray, l.filter (fun f => decide (f.name = s)) = k.filter (fun f => decide (f.name = s))
theorem StP.refl (l : List Fld) : StP l l := fun _ => rfl
theorem StP.trans {a b c : List Fld} (h : StP a b) (k : StP b c) : StP a c := fun s => (h s).trans (k s)
theorem StP.symm {a b : List Fld} (h : StP a b) : StP b a := fun s => (h s).symm
theorem StP.app {a b c d : List Fld} (h : StP a b) (k : StP c d) : StP (a ++ c) (b ++ d) := fun s => by rw [List.filter_append, List.filter_append, h s, k s]
theorem StP.swap {x y : Fld} (h : x.name ≠ y.name) : StP [x, y] [y, x] := fun s => by
  by_cases hx : x.name = s <;> by_cases hy : y.name = s
  · exact absurd (hx.trans hy.symm) h
  · simp [List.filter_cons, hx, hy]
  · simp [List.filter_cons, hx, hy]
  · simp [List.filter_cons, hx, hy]
theorem StP.mem {a b : List Fld} (h : StP a b) {x : Fld} (hx : x ∈ a) : x ∈ b := by
  have : x ∈ a.filter (fun f => decide (f.name = x.name)) := List.mem_filter.2 ⟨hx, by simp⟩
  rw [h x.name] at this
  exact (List.mem_filter.1 this).1
theorem srt_uniq : ∀ {a b : List Fld}, Srt a → Srt b → StP a b → a = b
  | [], [], _, _, _ => rfl
  | [], y :: b, _, _, h => by have := h.symm.mem (List.mem_cons_self (a := y)); cases this
  | x :: a, [], _, _, h => by have := h.mem (List.mem_cons_self (a := x)); cases this
  | x :: a, y :: b, ha, hb, h => by
    have ha' := List.pairwise_cons.1 ha
    have hb' := List.pairwise_cons.1 hb
    have h1 : leN x.name y.name := by
      rcases List.mem_cons.1 (h.symm.mem (List.mem_cons_self (a := y))) with e | hm
      · rw [e]; exact leN_refl _
      · exact ha'.1 y hm
    have h2 : leN y.name x.name := by
      rcases List.mem_cons.1 (h.mem (List.mem_cons_self (a := x))) with e | hm
      · rw [e]; exact leN_refl _
      · exact hb'.1 x hm
    have hn := leN_antisymm h1 h2
    have hs := h x.name
    rw [List.filter_cons_of_pos (by simp), List.filter_cons_of_pos (by simp [hn])] at hs
    have hxy : x = y := (List.cons.inj hs).1
    subst hxy
    rw [srt_uniq ha'.2 hb'.2 (fun s => by
      have := h s
      by_cases e : x.name = s
      · rw [List.filter_cons_of_pos (by simp [e]), List.filter_cons_of_pos (by simp [e])] at this
        exact (List.cons.inj this).2
      · rwa [List.filter_cons_of_neg (by simp [e]), List.filter_cons_of_neg (by simp [e])] at this)]
end Rw
