/- Walks: the document's types. Printed by wip/walks/kinds3.py. -/
import Derived.Test.YtohfnpmehgpphaaWa
import Derived.Test.YtohfnpmehgpphaaWb
import Derived.Test.YtohfnpmehgpphaaMore
import Derived.Test.YtohfnpmehgpphaaDraw
import Derived.Test.YtohfnpmehgpphaaPlainV
namespace Go.Proofs.Ytohfnpmehgpphaa
open Go Rw Go.RowKit
set_option maxRecDepth 4000

theorem take_same {l k : List Ty} {i : Nat} (hi : i < l.length) (hk : i < k.length) (h : l.take i = k.take i) (e : l[i] = k[i]) : l.take (i + 1) = k.take (i + 1) := by
  rw [List.take_succ_eq_append_getElem hi, List.take_succ_eq_append_getElem hk, h, e]
theorem take_full {l k : List Ty} {i : Nat} (hi : l.length ≤ i) (hl : l.length = k.length) (h : l.take i = k.take i) : l = k := by
  rw [List.take_of_length_le hi, List.take_of_length_le (by omega)] at h; exact h
theorem kid_step {l : List Ty} {s : ByteArray} {i : Nat} {d : UInt8} (hi : i < l.length) (hd : s.data[i]? = some d) (h : ∀ (j : Nat) x d, j < i → l[j]? = some x → s.data[j]? = some d → shapeF x d = true) (e : shapeF l[i] d = true) :
    ∀ (j : Nat) x d, j < i + 1 → l[j]? = some x → s.data[j]? = some d → shapeF x d = true := by
  intro j x d' hj hx hd'
  by_cases he : j = i
  · subst he
    rw [List.getElem?_eq_getElem hi] at hx
    rw [hd] at hd'
    cases hx; cases hd'; exact e
  · exact h j x d' (by omega) hx hd'

/-- Alike: equal. -/
theorem alike_spec : ∀ (t : Ty) (s : Ty) (M : Nat → Prop) (w : World) (v u : Value), Rep.R M w v t → Rep.R M w u s → Low M w → Calls Try.prog 38 #[v, u] w (Ret fun r w' => r = .bool (@decide (t = s) (Classical.propDecidable _)) ∧ Ext w w') := by
  refine Ty.ind fun t ih => ?_
  intro s M w v u ht hs hlow
  have hE : Below w.heap.size w w := Below.refl _ _
  have hB : w.heap.size ≤ w.heap.size := Nat.le_refl _
  obtain ⟨kv, rfl, op, nm, n64, hk⟩ := ty_open ht
  obtain ⟨kvs, rfl, ops, nms, n64s, hks⟩ := ty_open hs
  have hlt := hk.lt
  refine c_enter (n := 53) Try.func38 rfl rfl rfl ?_
  refine q0 ?_
  refine l_cons (o_box rfl rfl rfl ?_)
  intro b1 w1 hb_b1 ew1 h1
  replace h1 : Box _ b1 40 [.int .u8 t.op, .string t.name, .int .i64 t.n, kv] := h1
  replace h1 := h1.at (nM_of hlow hb_b1)
  replace hE := hE.trans (Below.mono ew1 hB)
  replace ht := Rep.ext ht ew1
  replace hk := hk.ext ew1
  replace hs := Rep.ext hs ew1
  replace hks := hks.ext ew1
  replace hlow := hlow.ext ew1
  replace hB := Nat.le_trans hB ew1.size
  refine l_cons (o_box rfl rfl rfl ?_)
  intro b2 w2 hb_b2 ew2 h2
  replace h2 : Box _ b2 40 [.int .u8 s.op, .string s.name, .int .i64 s.n, kvs] := h2
  replace h2 := h2.at (nM_of hlow hb_b2)
  replace hE := hE.trans (Below.mono ew2 hB)
  replace ht := Rep.ext ht ew2
  replace hk := hk.ext ew2
  replace hs := Rep.ext hs ew2
  replace hks := hks.ext ew2
  replace h1 := h1.ext ew2
  replace hlow := hlow.ext ew2
  replace hB := Nat.le_trans hB ew2.size
  refine l_p 1 tbOk rfl (q1 (c_seq (q0 (l_p 1 tbOk rfl ?_))))
  refine l_cons (o_ld tbOk (h1.cell 0 _ rfl) rfl rfl rfl rfl rfl ?_)
  refine l_p 1 tbOk rfl ?_
  refine l_cons (o_ld tbOk (h2.cell 0 _ rfl) rfl rfl rfl rfl rfl ?_)
  refine l_p 2 tbOk rfl ?_
  refine l_splitN 11 _ rfl (fun c1 => ?_) (fun c1 => ?_)
  · refine l_p 22 tbOk rfl (q1 (c_ifT rfl (q0 (l_p 1 tbOk rfl (q1 (c_ret (x_seqR (x_ret1 rfl rfl ?_))))))))
    exact ⟨by rw [cl_false (fun e => by subst e; simp_all)], hE⟩
  refine l_p 1 tbOk rfl ?_
  refine l_cons (o_ld tbOk (h1.cell 1 _ rfl) rfl rfl rfl rfl rfl ?_)
  refine l_p 1 tbOk rfl ?_
  refine l_cons (o_ld tbOk (h2.cell 1 _ rfl) rfl rfl rfl rfl rfl ?_)
  refine l_p 3 tbOk rfl ?_
  refine l_splitN 18 _ rfl (fun c2 => ?_) (fun c2 => ?_)
  · refine l_p 15 tbOk rfl (q1 (c_ifT rfl (q0 (l_p 1 tbOk rfl (q1 (c_ret (x_seqR (x_ret1 rfl rfl ?_))))))))
    exact ⟨by rw [cl_false (fun e => by subst e; simp_all)], hE⟩
  refine l_p 1 tbOk rfl ?_
  refine l_cons (o_ld tbOk (h1.cell 2 _ rfl) rfl rfl rfl rfl rfl ?_)
  refine l_p 1 tbOk rfl ?_
  refine l_cons (o_ld tbOk (h2.cell 2 _ rfl) rfl rfl rfl rfl rfl ?_)
  refine l_p 3 tbOk rfl ?_
  refine l_splitN 25 _ rfl (fun c3 => ?_) (fun c3 => ?_)
  · refine l_p 8 tbOk rfl (q1 (c_ifT rfl (q0 (l_p 1 tbOk rfl (q1 (c_ret (x_seqR (x_ret1 rfl rfl ?_))))))))
    exact ⟨by rw [cl_false (fun e => by subst e; simp_all)], hE⟩
  refine l_p 1 tbOk rfl ?_
  refine l_cons (o_ld tbOk (h1.cell 3 _ rfl) rfl rfl rfl rfl rfl ?_)
  refine l_cons (o_len tbOk hk rfl rfl rfl rfl rfl ?_)
  refine l_p 1 tbOk rfl ?_
  refine l_cons (o_ld tbOk (h2.cell 3 _ rfl) rfl rfl rfl rfl rfl ?_)
  refine l_cons (o_len tbOk hks rfl rfl rfl rfl rfl ?_)
  refine l_p 2 tbOk rfl (q1 ?_)
  refine c_ifN _ rfl (fun c4 => ?_) (fun c4 => ?_)
  · refine q0 (l_p 1 tbOk rfl (q1 (c_ret (x_seqR (x_ret1 rfl rfl ?_)))))
    exact ⟨by rw [cl_false (fun e => by subst e; simp_all)], hE⟩
  refine c_skip (x_seq (c_seq (q0 (l_p 1 tbOk rfl (q1 (c_blk ?_))))))
  have hop : t.op = s.op := by assumption
  have hnm : t.name = s.name := by assumption
  have hnn : t.n = s.n := by assumption
  have hll : t.kids.length = s.kids.length := by omega
  refine c_loop (X := Nat) (fun i => [(2, .pointer (some ⟨b1, 0, none⟩)), (3, .pointer (some ⟨b2, 0, none⟩)), (5, .int .i64 (i : Nat))]) (fun i w' => i ≤ t.kids.length ∧ t.kids.take i = s.kids.take i ∧ At M w' b1 0 [.int .u8 t.op, .string t.name, .int .i64 t.n, kv] ∧ At M w' b2 0 [.int .u8 s.op, .string s.name, .int .i64 s.n, kvs] ∧ Sl M w' kv t.kids ∧ Sl M w' kvs s.kids ∧ Low M w' ∧ Below w.heap.size w w' ∧ w.heap.size ≤ w'.heap.size) (fun i => t.kids.length - i) (0) (s3 rfl rfl rfl) ?_ ?_
  · exact ⟨Nat.zero_le _, rfl, h1, h2, hk, hks, hlow, hE, hB⟩
  rintro i w3 ⟨hi, htake, h1, h2, hk, hks, hlow, hE, hB⟩
  refine c_seq (q0 (l_p 2 tbOk rfl ?_))
  refine l_cons (o_ld tbOk (h1.cell 3 _ rfl) rfl rfl rfl rfl rfl ?_)
  refine l_cons (o_len tbOk hk rfl rfl rfl rfl rfl ?_)
  refine l_p 1 tbOk rfl (q1 ?_)
  refine c_ifP _ rfl (fun c5 => ?_) (fun c5 => ?_)
  · refine c_skip (x_seq (c_seq (c_blk (c_seq ?_))))
    refine a_beg Ext rfl ?_
    intro w4 ew4
    replace hE := hE.trans (Below.mono ew4 hB)
    replace h1 := h1.ext ew4
    replace h2 := h2.ext ew4
    replace hk := hk.ext ew4
    replace hks := hks.ext ew4
    replace hlow := hlow.ext ew4
    replace hB := Nat.le_trans hB ew4.size
    have hS : Ext w4 w4 := ext_refl _
    have D_h1 := h1
    have D_h2 := h2
    have D_hk := hk
    have D_hks := hks
    refine a_p 0 tbOk rfl rfl rfl rfl (by kernel_rfl) (fun _ _ _ h => h) hS ?_
    refine a_ld 1 tbOk (fun _ hs => (D_h1.ext hs).cell 3 _ rfl) rfl rfl rfl rfl rfl rfl (by kernel_rfl) (fun _ _ _ h => h) hS ?_
    refine a_p 2 tbOk rfl rfl rfl rfl (by kernel_rfl) (fun _ _ _ h => h) hS ?_
    have hik : i < t.kids.length := by omega
    have hiks : i < s.kids.length := by omega
    refine a_ixS 3 tbOk D_hk (List.getElem?_eq_getElem hik) rfl rfl rfl rfl rfl rfl rfl rfl rfl rfl (by kernel_rfl) (fun _ _ _ _ h => h) hS ?_
    intro ebx eox eux hyx hatx
    obtain ⟨kvx, rfl, opx, nmx, n64x, hkx⟩ := ty_open hyx
    replace hatx : At M w4 ebx eox [.int .u8 t.kids[i].op, .string t.kids[i].name, .int .i64 t.kids[i].n, kvx] := hatx
    refine a_lds 4 tbOk (fun _ hs j v hv => (hatx.ext hs).cell j v hv) rfl rfl rfl rfl rfl rfl rfl (by kernel_rfl) (fun _ _ _ h => h) hS ?_
    refine a_p 5 tbOk rfl rfl rfl rfl (by kernel_rfl) (fun _ _ _ h => h) hS ?_
    refine a_ld 6 tbOk (fun _ hs => (D_h2.ext hs).cell 3 _ rfl) rfl rfl rfl rfl rfl rfl (by kernel_rfl) (fun _ _ _ h => h) hS ?_
    refine a_p 7 tbOk rfl rfl rfl rfl (by kernel_rfl) (fun _ _ _ h => h) hS ?_
    refine a_ixS 8 tbOk D_hks (List.getElem?_eq_getElem hiks) rfl rfl rfl rfl rfl rfl rfl rfl rfl rfl (by kernel_rfl) (fun _ _ _ _ h => h) hS ?_
    intro eby eoy euy hyy haty
    obtain ⟨kvy, rfl, opy, nmy, n64y, hky⟩ := ty_open hyy
    replace haty : At M w4 eby eoy [.int .u8 s.kids[i].op, .string s.kids[i].name, .int .i64 s.kids[i].n, kvy] := haty
    refine a_lds 9 tbOk (fun _ hs j v hv => (haty.ext hs).cell j v hv) rfl rfl rfl rfl rfl rfl rfl (by kernel_rfl) (fun _ _ _ h => h) hS ?_
    refine a_bar 10 rfl (by kernel_rfl) (by kernel_rfl) (o_call fo38 rfl rfl rfl (ih _ (List.getElem_mem hik) _ _ _ _ _ hyx hyy hlow) ?_)
    rintro _ w5 ⟨rfl, ew5⟩
    replace hS := hS.then ew5
    replace hE := hE.trans (Below.mono ew5 hB)
    replace h1 := h1.ext ew5
    replace h2 := h2.ext ew5
    replace hk := hk.ext ew5
    replace hks := hks.ext ew5
    replace hyx := Rep.ext hyx ew5
    replace hkx := hkx.ext ew5
    replace hatx := hatx.ext ew5
    replace hyy := Rep.ext hyy ew5
    replace hky := hky.ext ew5
    replace haty := haty.ext ew5
    replace hlow := hlow.ext ew5
    replace hB := Nat.le_trans hB ew5.size
    refine a_p 11 tbOk rfl rfl rfl rfl (by kernel_rfl) (fun _ _ _ h => h) hS ?_
    refine a_end (by kernel_rfl) ?_
    refine x_seq ?_
    refine c_ifB _ rfl (fun c6 => ?_) (fun c6 => ?_)
    · refine q0 (l_p 1 tbOk rfl (q1 (c_ret (x_blkR (x_seqR (x_seqR (x_blkR (x_seqR (x_ret1 rfl rfl ?_)))))))))
      exact ⟨by rw [cl_false (fun e => by subst e; exact absurd rfl (cl_not c6))], hE⟩
    refine c_skip (x_blk (x_seq (c_reg (l_p 1 tbOk rfl ?_))))
    refine l_cons (o_ar rfl rfl rfl (IntWalk.i64_in _ (by omega)) rfl rfl ?_)
    refine l_p 1 tbOk rfl (l_nil ?_)
    exact x_round (i + 1) (s3 rfl rfl rfl) ⟨by omega, take_same hik hiks htake (cl_of (by simpa using c6)), h1, h2, hk, hks, hlow, hE, hB⟩ (by omega)
  refine c_exit (x_seqE (x_seqE (x_blkE (x_seq (q0 (l_p 1 tbOk rfl (q1 (c_ret (x_ret1 rfl rfl ?_)))))))))
  exact ⟨by rw [cl_true (Ty.ext' hop hnm hnn (take_full (by omega) hll htake))], hE⟩

/-- Kids: which kids an op has. -/
theorem kids_spec (w : World) (op : Int) :
    Calls Try.prog 96 #[.int .u8 op] w (Ret fun r w' => (∃ b s, r = .tuple #[.string s, .bool b] ∧ kidsOf op = if b then some s else none) ∧ w = w') := by
  refine c_enter (n := 20) Try.func96 rfl rfl rfl ?_
  refine q0 (l_p 2 tbOk rfl (q1 (c_seq (q0 (l_p 1 tbOk rfl (q1 (c_blk (c_seq (q0 (l_p 2 tbOk rfl (q1 ?_)))))))))))
  refine c_splitP 5 _ rfl (fun c1 => c_ifT rfl ?_) (fun c1 => c_ifF rfl ?_)
  · refine c_skip (x_seq (c_ifT rfl (q0 (l_p 2 tbOk rfl (q1 (c_ret (x_blkR (x_seqR (x_ret2 rfl rfl rfl ?_)))))))))
    exact ⟨⟨_, _, rfl, by simp [kidsOf, *]⟩, rfl⟩
  refine q0 (l_p 2 tbOk rfl (q1 ?_))
  refine c_splitP 5 _ rfl (fun c2 => c_ifT rfl ?_) (fun c2 => c_ifF rfl ?_)
  · refine c_skip (x_seq (c_ifT rfl (q0 (l_p 2 tbOk rfl (q1 (c_ret (x_blkR (x_seqR (x_ret2 rfl rfl rfl ?_)))))))))
    exact ⟨⟨_, _, rfl, by simp [kidsOf, *]⟩, rfl⟩
  refine q0 (l_p 2 tbOk rfl (q1 ?_))
  refine c_splitP 5 _ rfl (fun c3 => c_ifT rfl ?_) (fun c3 => c_ifF rfl ?_)
  · refine c_skip (x_seq (c_ifT rfl (q0 (l_p 2 tbOk rfl (q1 (c_ret (x_blkR (x_seqR (x_ret2 rfl rfl rfl ?_)))))))))
    exact ⟨⟨_, _, rfl, by simp [kidsOf, *]⟩, rfl⟩
  refine q0 (l_p 2 tbOk rfl (q1 ?_))
  refine c_splitP 5 _ rfl (fun c4 => c_ifT rfl ?_) (fun c4 => c_ifF rfl ?_)
  · refine c_skip (x_seq (c_ifT rfl (q0 (l_p 2 tbOk rfl (q1 (c_ret (x_blkR (x_seqR (x_ret2 rfl rfl rfl ?_)))))))))
    exact ⟨⟨_, _, rfl, by simp [kidsOf, *]⟩, rfl⟩
  refine q0 (l_p 2 tbOk rfl (q1 ?_))
  refine c_splitP 5 _ rfl (fun c5 => c_ifT rfl ?_) (fun c5 => c_ifF rfl ?_)
  · refine c_skip (x_seq (c_ifT rfl (q0 (l_p 2 tbOk rfl (q1 (c_ret (x_blkR (x_seqR (x_ret2 rfl rfl rfl ?_)))))))))
    exact ⟨⟨_, _, rfl, by simp [kidsOf, *]⟩, rfl⟩
  refine q0 (l_p 2 tbOk rfl (q1 ?_))
  refine c_splitP 5 _ rfl (fun c6 => c_ifT rfl ?_) (fun c6 => c_ifF rfl ?_)
  · refine c_skip (x_seq (c_ifT rfl (q0 (l_p 2 tbOk rfl (q1 (c_ret (x_blkR (x_seqR (x_ret2 rfl rfl rfl ?_)))))))))
    exact ⟨⟨_, _, rfl, by simp [kidsOf, *]⟩, rfl⟩
  refine c_reg (l_p 2 tbOk rfl (q1 ?_))
  refine c_splitP 5 _ rfl (fun c7 => c_ifT rfl ?_) (fun c7 => c_ifF rfl ?_)
  · refine q0 (l_p 2 tbOk rfl (q1 (c_ret (x_blkR (x_seqR (x_ret2 rfl rfl rfl ?_))))))
    exact ⟨⟨_, _, rfl, by simp [kidsOf, *]⟩, rfl⟩
  refine q0 (l_p 2 tbOk rfl (q1 ?_))
  refine c_ifP _ rfl (fun c8 => ?_) (fun c8 => ?_)
  · refine q0 (l_p 2 tbOk rfl (q1 (c_ret (x_blkR (x_seqR (x_ret2 rfl rfl rfl ?_))))))
    exact ⟨⟨_, _, rfl, by simp [kidsOf, *]⟩, rfl⟩
  refine c_seq (q0 (l_p 2 tbOk rfl (q1 ?_)))
  refine c_splitP 15 _ rfl (fun c9 => c_ifT rfl ?_) (fun c9 => c_ifF rfl ?_)
  · refine c_skip (x_seq (c_ifT rfl (q0 (l_p 2 tbOk rfl (q1 (c_ret (x_blkR (x_seqR (x_ret2 rfl rfl rfl ?_)))))))))
    exact ⟨⟨_, _, rfl, by simp [kidsOf, *]⟩, rfl⟩
  refine c_reg (l_p 2 tbOk rfl (q1 ?_))
  refine c_splitP 15 _ rfl (fun c10 => c_ifT rfl ?_) (fun c10 => c_ifF rfl ?_)
  · refine q0 (l_p 2 tbOk rfl (q1 (c_ret (x_blkR (x_seqR (x_ret2 rfl rfl rfl ?_))))))
    exact ⟨⟨_, _, rfl, by simp [kidsOf, *]⟩, rfl⟩
  refine q0 (l_p 2 tbOk rfl (q1 ?_))
  refine c_ifP _ rfl (fun c11 => ?_) (fun c11 => ?_)
  · refine q0 (l_p 2 tbOk rfl (q1 (c_ret (x_blkR (x_seqR (x_ret2 rfl rfl rfl ?_))))))
    exact ⟨⟨_, _, rfl, by simp [kidsOf, *]⟩, rfl⟩
  refine c_skip (x_blk (x_seq (q0 (l_p 2 tbOk rfl (q1 (c_ret (x_ret2 rfl rfl rfl ?_)))))))
  exact ⟨⟨_, _, rfl, by simp [kidsOf, *]⟩, rfl⟩

/-- shape: a type, or a row? -/
theorem shape_spec : ∀ (t : Ty) (c : UInt8) (M : Nat → Prop) (w : World) (v : Value), Rep.R M w v t → Low M w → Calls Try.prog 60 #[v, .int .u8 c.toNat] w (Ret fun r w' => r = .bool (shapeF t c) ∧ Ext w w') := by
  refine Ty.ind fun t ih => ?_
  intro c M w v ht hlow
  have hE : Below w.heap.size w w := Below.refl _ _
  have hB : w.heap.size ≤ w.heap.size := Nat.le_refl _
  obtain ⟨kv, rfl, op, nm, n64, hk⟩ := ty_open ht
  have hlt := hk.lt
  refine c_enter (n := 85) Try.func60 rfl rfl rfl ?_
  refine q0 ?_
  refine l_cons (o_box rfl rfl rfl ?_)
  intro b1 w1 hb_b1 ew1 h1
  replace h1 : Box _ b1 40 [.int .u8 t.op, .string t.name, .int .i64 t.n, kv] := h1
  replace h1 := h1.at (nM_of hlow hb_b1)
  replace hE := hE.trans (Below.mono ew1 hB)
  replace ht := Rep.ext ht ew1
  replace hk := hk.ext ew1
  replace hlow := hlow.ext ew1
  replace hB := Nat.le_trans hB ew1.size
  refine l_p 1 tbOk rfl (q1 (q0 (l_p 1 tbOk rfl ?_)))
  refine l_cons (o_ld tbOk (h1.cell 0 _ rfl) rfl rfl rfl rfl rfl ?_)
  refine l_cons (o_call fo96 rfl rfl rfl (kids_spec _ t.op) ?_)
  rintro _ _ ⟨⟨bk, ks, rfl, hko⟩, rfl⟩
  refine l_p 5 tbOk rfl (q1 (c_seq (q0 (l_p 3 tbOk rfl ?_))))
  refine l_splitB 16 _ rfl (fun c1 => ?_) (fun c1 => ?_)
  · refine l_p 15 tbOk rfl (q1 (c_ifT rfl (q0 (l_p 1 tbOk rfl (q1 (c_ret (x_seqR (x_ret1 rfl rfl ?_))))))))
    obtain rfl : bk = false := by simpa using c1
    replace hko : kidsOf t.op = none := hko
    exact ⟨by rw [shape_none hko], hE⟩
  refine l_p 1 tbOk rfl ?_
  refine l_cons (o_ld tbOk (h1.cell 0 _ rfl) rfl rfl rfl rfl rfl ?_)
  refine l_p 3 tbOk rfl ?_
  refine l_cons (o_bne tbOk rfl rfl rfl rfl rfl rfl ?_)
  refine l_p 2 tbOk rfl ?_
  refine l_split 24 _ rfl (fun c2 => ?_) (fun c2 => ?_)
  · refine l_p 7 tbOk rfl (q1 (c_ifT rfl (q0 (l_p 1 tbOk rfl (q1 (c_ret (x_seqR (x_ret1 rfl rfl ?_))))))))
    obtain rfl : bk = true := by simpa using c1
    replace hko : kidsOf t.op = some ks := hko
    exact ⟨by rw [shape_sort hko (by simpa using c2)], hE⟩
  refine l_p 1 tbOk rfl ?_
  refine l_cons (o_ld tbOk (h1.cell 3 _ rfl) rfl rfl rfl rfl rfl ?_)
  refine l_cons (o_len tbOk hk rfl rfl rfl rfl rfl ?_)
  refine l_p 4 tbOk rfl (q1 ?_)
  refine c_ifN _ rfl (fun c3 => ?_) (fun c3 => ?_)
  · refine q0 (l_p 1 tbOk rfl (q1 (c_ret (x_seqR (x_ret1 rfl rfl ?_)))))
    obtain rfl : bk = true := by simpa using c1
    replace hko : kidsOf t.op = some ks := hko
    exact ⟨by rw [shape_len hko (by omega)], hE⟩
  refine c_skip (x_seq (c_seq (q0 (l_p 1 tbOk rfl ?_))))
  refine l_cons (o_ld tbOk (h1.cell 0 _ rfl) rfl rfl rfl rfl rfl ?_)
  refine l_p 2 tbOk rfl ?_
  refine l_splitP 35 _ rfl (fun c4 => ?_) (fun c4 => ?_)
  · refine l_p 1 tbOk rfl ?_
    refine l_cons (o_ld tbOk (h1.cell 1 _ rfl) rfl rfl rfl rfl rfl ?_)
    refine l_cons (o_call fo23 rfl rfl rfl (risWord_spec M _ t.name nm hlow) ?_)
    rintro _ w2 ⟨rfl, ew2⟩
    replace hE := hE.trans (Below.mono ew2 hB)
    replace ht := Rep.ext ht ew2
    replace hk := hk.ext ew2
    replace h1 := h1.ext ew2
    replace hlow := hlow.ext ew2
    replace hB := Nat.le_trans hB ew2.size
    refine l_p 3 tbOk rfl ?_
    refine l_splitB 41 _ rfl (fun c5 => ?_) (fun c5 => ?_)
    · refine l_p 9 tbOk rfl (q1 (c_ifT rfl (q0 (l_p 1 tbOk rfl (q1 (c_ret (x_seqR (x_ret1 rfl rfl ?_))))))))
      exact ⟨by rw [shape_head (by unfold headOk; simp_all <;> omega)], hE⟩
    refine l_p 1 tbOk rfl ?_
    refine l_cons (o_ld tbOk (h1.cell 0 _ rfl) rfl rfl rfl rfl rfl ?_)
    refine l_p 2 tbOk rfl ?_
    refine l_splitN 45 _ rfl (fun c6 => ?_) (fun c6 => ?_)
    · refine l_p 1 tbOk rfl ?_
      refine l_cons (o_ld tbOk (h1.cell 1 _ rfl) rfl rfl rfl rfl rfl ?_)
      refine l_p 3 tbOk rfl (q1 ?_)
      refine c_ifN _ rfl (fun c7 => ?_) (fun c7 => ?_)
      · refine q0 (l_p 1 tbOk rfl (q1 (c_ret (x_seqR (x_ret1 rfl rfl ?_)))))
        exact ⟨by rw [shape_head (by unfold headOk; simp_all <;> omega)], hE⟩
      refine c_skip (x_seq (c_seq (q0 (l_p 1 tbOk rfl ?_))))
      refine l_cons (o_ld tbOk (h1.cell 2 _ rfl) rfl rfl rfl rfl rfl ?_)
      refine l_p 2 tbOk rfl ?_
      refine l_splitP 54 _ rfl (fun c8 => ?_) (fun c8 => ?_)
      · refine l_p 14 tbOk rfl (q1 (c_ifT rfl (q0 (l_p 1 tbOk rfl (q1 (c_ret (x_seqR (x_ret1 rfl rfl ?_))))))))
        exact ⟨by rw [shape_head (by unfold headOk; simp_all <;> omega)], hE⟩
      refine l_p 1 tbOk rfl ?_
      refine l_cons (o_ld tbOk (h1.cell 0 _ rfl) rfl rfl rfl rfl rfl ?_)
      refine l_p 2 tbOk rfl ?_
      refine l_splitN 58 _ rfl (fun c9 => ?_) (fun c9 => ?_)
      · refine l_p 1 tbOk rfl ?_
        refine l_cons (o_ld tbOk (h1.cell 0 _ rfl) rfl rfl rfl rfl rfl ?_)
        refine l_p 3 tbOk rfl ?_
        refine l_splitN 63 _ rfl (fun c10 => ?_) (fun c10 => ?_)
        · refine l_p 1 tbOk rfl ?_
          refine l_cons (o_ld tbOk (h1.cell 2 _ rfl) rfl rfl rfl rfl rfl ?_)
          refine l_p 3 tbOk rfl (q1 ?_)
          refine c_ifN _ rfl (fun c11 => ?_) (fun c11 => ?_)
          · refine q0 (l_p 1 tbOk rfl (q1 (c_ret (x_seqR (x_ret1 rfl rfl ?_)))))
            exact ⟨by rw [shape_head (by unfold headOk; simp_all <;> omega)], hE⟩
          refine c_skip (x_seq (c_seq (q0 (l_p 1 tbOk rfl (q1 (c_blk ?_))))))
          obtain rfl : bk = true := by simpa using c1
          replace hko : kidsOf t.op = some ks := hko
          have hll : t.kids.length = ks.size := by omega
          have hsort : (decide (8 ≤ t.op) == decide ((c.toNat : Int) = 114)) = true := by simpa using c2
          have hhead : headOk t.op t.name t.n = true := by unfold headOk; simp_all <;> omega
          refine c_loop (X := Nat) (fun i => [(2, .pointer (some ⟨b1, 0, none⟩)), (5, .string ks), (7, .int .i64 (i : Nat))]) (fun i w' => i ≤ t.kids.length ∧ (∀ (j : Nat) x d, j < i → t.kids[j]? = some x → ks.data[j]? = some d → shapeF x d = true) ∧ At M w' b1 0 [.int .u8 t.op, .string t.name, .int .i64 t.n, kv] ∧ Sl M w' kv t.kids ∧ Low M w' ∧ Below w.heap.size w w' ∧ w.heap.size ≤ w'.heap.size) (fun i => t.kids.length - i) (0) (s3 rfl rfl rfl) ?_ ?_
          · exact ⟨Nat.zero_le _, fun j x d hj => absurd hj (Nat.not_lt_zero _), h1, hk, hlow, hE, hB⟩
          rintro i w3 ⟨hi, hall, h1, hk, hlow, hE, hB⟩
          refine c_seq (q0 (l_p 4 tbOk rfl (q1 ?_)))
          refine c_ifP _ rfl (fun c12 => ?_) (fun c12 => ?_)
          · refine c_skip (x_seq (c_seq (c_blk (c_seq ?_))))
            refine a_beg Ext rfl ?_
            intro w4 ew4
            replace hE := hE.trans (Below.mono ew4 hB)
            replace h1 := h1.ext ew4
            replace hk := hk.ext ew4
            replace hlow := hlow.ext ew4
            replace hB := Nat.le_trans hB ew4.size
            have hS : Ext w4 w4 := ext_refl _
            have D_h1 := h1
            have D_hk := hk
            refine a_p 0 tbOk rfl rfl rfl rfl (by kernel_rfl) (fun _ _ _ h => h) hS ?_
            refine a_ld 1 tbOk (fun _ hs => (D_h1.ext hs).cell 3 _ rfl) rfl rfl rfl rfl rfl rfl (by kernel_rfl) (fun _ _ _ h => h) hS ?_
            refine a_p 2 tbOk rfl rfl rfl rfl (by kernel_rfl) (fun _ _ _ h => h) hS ?_
            have hik : i < t.kids.length := by omega
            have hd : ks.data[i]? = some (ks.data[i]'(by have := size_data ks; omega)) := Array.getElem?_eq_getElem _
            generalize hcc : (ks.data[i]'(by have := size_data ks; omega)) = dd at hd
            refine a_ixS 3 tbOk D_hk (List.getElem?_eq_getElem hik) rfl rfl rfl rfl rfl rfl rfl rfl rfl rfl (by kernel_rfl) (fun _ _ _ _ h => h) hS ?_
            intro ebx eox eux hyx hatx
            obtain ⟨kvx, rfl, opx, nmx, n64x, hkx⟩ := ty_open hyx
            replace hatx : At M w4 ebx eox [.int .u8 t.kids[i].op, .string t.kids[i].name, .int .i64 t.kids[i].n, kvx] := hatx
            refine a_lds 4 tbOk (fun _ hs j v hv => (hatx.ext hs).cell j v hv) rfl rfl rfl rfl rfl rfl rfl (by kernel_rfl) (fun _ _ _ h => h) hS ?_
            refine a_p 5 tbOk rfl rfl rfl rfl (by kernel_rfl) (fun _ _ _ h => h) hS ?_
            refine a_p 6 tbOk rfl rfl rfl rfl (by kernel_rfl) (fun _ _ _ h => h) hS ?_
            refine a_si 7 tbOk hd rfl rfl rfl rfl rfl rfl rfl rfl (by kernel_rfl) (fun _ _ _ h => h) hS ?_
            refine a_bar 8 rfl (by kernel_rfl) (by kernel_rfl) (o_call fo60 rfl rfl rfl (ih _ (List.getElem_mem hik) dd _ _ _ hyx hlow) ?_)
            rintro _ w5 ⟨rfl, ew5⟩
            replace hS := hS.then ew5
            replace hE := hE.trans (Below.mono ew5 hB)
            replace h1 := h1.ext ew5
            replace hk := hk.ext ew5
            replace hyx := Rep.ext hyx ew5
            replace hkx := hkx.ext ew5
            replace hatx := hatx.ext ew5
            replace hlow := hlow.ext ew5
            replace hB := Nat.le_trans hB ew5.size
            refine a_p 9 tbOk rfl rfl rfl rfl (by kernel_rfl) (fun _ _ _ h => h) hS ?_
            refine a_end (by kernel_rfl) ?_
            refine x_seq ?_
            refine c_ifB _ rfl (fun c13 => ?_) (fun c13 => ?_)
            · refine q0 (l_p 1 tbOk rfl (q1 (c_ret (x_blkR (x_seqR (x_seqR (x_blkR (x_seqR (x_ret1 rfl rfl ?_)))))))))
              exact ⟨by rw [shape_kid hko hik hd c13], hE⟩
            refine c_skip (x_blk (x_seq (c_reg (l_p 1 tbOk rfl ?_))))
            refine l_cons (o_ar rfl rfl rfl (IntWalk.i64_in _ (by omega)) rfl rfl ?_)
            refine l_p 1 tbOk rfl (l_nil ?_)
            exact x_round (i + 1) (s3 rfl rfl rfl) ⟨by omega, kid_step hik hd hall c13, h1, hk, hlow, hE, hB⟩ (by omega)
          refine c_exit (x_seqE (x_seqE (x_blkE (x_seq (q0 (l_p 1 tbOk rfl (q1 (c_ret (x_ret1 rfl rfl ?_)))))))))
          exact ⟨by rw [shape_yes hko hll hsort hhead (fun j x d hx hd => hall j x d (by have := (List.getElem?_eq_some_iff.1 hx).1; omega) hx hd)], hE⟩
        refine l_p 5 tbOk rfl (q1 (c_ifF rfl (c_skip (x_seq (c_seq (q0 (l_p 1 tbOk rfl (q1 (c_blk ?_)))))))))
        obtain rfl : bk = true := by simpa using c1
        replace hko : kidsOf t.op = some ks := hko
        have hll : t.kids.length = ks.size := by omega
        have hsort : (decide (8 ≤ t.op) == decide ((c.toNat : Int) = 114)) = true := by simpa using c2
        have hhead : headOk t.op t.name t.n = true := by unfold headOk; simp_all <;> omega
        refine c_loop (X := Nat) (fun i => [(2, .pointer (some ⟨b1, 0, none⟩)), (5, .string ks), (7, .int .i64 (i : Nat))]) (fun i w' => i ≤ t.kids.length ∧ (∀ (j : Nat) x d, j < i → t.kids[j]? = some x → ks.data[j]? = some d → shapeF x d = true) ∧ At M w' b1 0 [.int .u8 t.op, .string t.name, .int .i64 t.n, kv] ∧ Sl M w' kv t.kids ∧ Low M w' ∧ Below w.heap.size w w' ∧ w.heap.size ≤ w'.heap.size) (fun i => t.kids.length - i) (0) (s3 rfl rfl rfl) ?_ ?_
        · exact ⟨Nat.zero_le _, fun j x d hj => absurd hj (Nat.not_lt_zero _), h1, hk, hlow, hE, hB⟩
        rintro i w6 ⟨hi, hall, h1, hk, hlow, hE, hB⟩
        refine c_seq (q0 (l_p 4 tbOk rfl (q1 ?_)))
        refine c_ifP _ rfl (fun c14 => ?_) (fun c14 => ?_)
        · refine c_skip (x_seq (c_seq (c_blk (c_seq ?_))))
          refine a_beg Ext rfl ?_
          intro w7 ew7
          replace hE := hE.trans (Below.mono ew7 hB)
          replace h1 := h1.ext ew7
          replace hk := hk.ext ew7
          replace hlow := hlow.ext ew7
          replace hB := Nat.le_trans hB ew7.size
          have hS : Ext w7 w7 := ext_refl _
          have D_h1 := h1
          have D_hk := hk
          refine a_p 0 tbOk rfl rfl rfl rfl (by kernel_rfl) (fun _ _ _ h => h) hS ?_
          refine a_ld 1 tbOk (fun _ hs => (D_h1.ext hs).cell 3 _ rfl) rfl rfl rfl rfl rfl rfl (by kernel_rfl) (fun _ _ _ h => h) hS ?_
          refine a_p 2 tbOk rfl rfl rfl rfl (by kernel_rfl) (fun _ _ _ h => h) hS ?_
          have hik : i < t.kids.length := by omega
          have hd : ks.data[i]? = some (ks.data[i]'(by have := size_data ks; omega)) := Array.getElem?_eq_getElem _
          generalize hcc : (ks.data[i]'(by have := size_data ks; omega)) = dd at hd
          refine a_ixS 3 tbOk D_hk (List.getElem?_eq_getElem hik) rfl rfl rfl rfl rfl rfl rfl rfl rfl rfl (by kernel_rfl) (fun _ _ _ _ h => h) hS ?_
          intro ebx eox eux hyx hatx
          obtain ⟨kvx, rfl, opx, nmx, n64x, hkx⟩ := ty_open hyx
          replace hatx : At M w7 ebx eox [.int .u8 t.kids[i].op, .string t.kids[i].name, .int .i64 t.kids[i].n, kvx] := hatx
          refine a_lds 4 tbOk (fun _ hs j v hv => (hatx.ext hs).cell j v hv) rfl rfl rfl rfl rfl rfl rfl (by kernel_rfl) (fun _ _ _ h => h) hS ?_
          refine a_p 5 tbOk rfl rfl rfl rfl (by kernel_rfl) (fun _ _ _ h => h) hS ?_
          refine a_p 6 tbOk rfl rfl rfl rfl (by kernel_rfl) (fun _ _ _ h => h) hS ?_
          refine a_si 7 tbOk hd rfl rfl rfl rfl rfl rfl rfl rfl (by kernel_rfl) (fun _ _ _ h => h) hS ?_
          refine a_bar 8 rfl (by kernel_rfl) (by kernel_rfl) (o_call fo60 rfl rfl rfl (ih _ (List.getElem_mem hik) dd _ _ _ hyx hlow) ?_)
          rintro _ w8 ⟨rfl, ew8⟩
          replace hS := hS.then ew8
          replace hE := hE.trans (Below.mono ew8 hB)
          replace h1 := h1.ext ew8
          replace hk := hk.ext ew8
          replace hyx := Rep.ext hyx ew8
          replace hkx := hkx.ext ew8
          replace hatx := hatx.ext ew8
          replace hlow := hlow.ext ew8
          replace hB := Nat.le_trans hB ew8.size
          refine a_p 9 tbOk rfl rfl rfl rfl (by kernel_rfl) (fun _ _ _ h => h) hS ?_
          refine a_end (by kernel_rfl) ?_
          refine x_seq ?_
          refine c_ifB _ rfl (fun c15 => ?_) (fun c15 => ?_)
          · refine q0 (l_p 1 tbOk rfl (q1 (c_ret (x_blkR (x_seqR (x_seqR (x_blkR (x_seqR (x_ret1 rfl rfl ?_)))))))))
            exact ⟨by rw [shape_kid hko hik hd c15], hE⟩
          refine c_skip (x_blk (x_seq (c_reg (l_p 1 tbOk rfl ?_))))
          refine l_cons (o_ar rfl rfl rfl (IntWalk.i64_in _ (by omega)) rfl rfl ?_)
          refine l_p 1 tbOk rfl (l_nil ?_)
          exact x_round (i + 1) (s3 rfl rfl rfl) ⟨by omega, kid_step hik hd hall c15, h1, hk, hlow, hE, hB⟩ (by omega)
        refine c_exit (x_seqE (x_seqE (x_blkE (x_seq (q0 (l_p 1 tbOk rfl (q1 (c_ret (x_ret1 rfl rfl ?_)))))))))
        exact ⟨by rw [shape_yes hko hll hsort hhead (fun j x d hx hd => hall j x d (by have := (List.getElem?_eq_some_iff.1 hx).1; omega) hx hd)], hE⟩
      refine l_p 10 tbOk rfl (q1 (c_ifF rfl (c_skip (x_seq (c_seq (q0 (l_p 1 tbOk rfl (q1 (c_blk ?_)))))))))
      obtain rfl : bk = true := by simpa using c1
      replace hko : kidsOf t.op = some ks := hko
      have hll : t.kids.length = ks.size := by omega
      have hsort : (decide (8 ≤ t.op) == decide ((c.toNat : Int) = 114)) = true := by simpa using c2
      have hhead : headOk t.op t.name t.n = true := by unfold headOk; simp_all <;> omega
      refine c_loop (X := Nat) (fun i => [(2, .pointer (some ⟨b1, 0, none⟩)), (5, .string ks), (7, .int .i64 (i : Nat))]) (fun i w' => i ≤ t.kids.length ∧ (∀ (j : Nat) x d, j < i → t.kids[j]? = some x → ks.data[j]? = some d → shapeF x d = true) ∧ At M w' b1 0 [.int .u8 t.op, .string t.name, .int .i64 t.n, kv] ∧ Sl M w' kv t.kids ∧ Low M w' ∧ Below w.heap.size w w' ∧ w.heap.size ≤ w'.heap.size) (fun i => t.kids.length - i) (0) (s3 rfl rfl rfl) ?_ ?_
      · exact ⟨Nat.zero_le _, fun j x d hj => absurd hj (Nat.not_lt_zero _), h1, hk, hlow, hE, hB⟩
      rintro i w9 ⟨hi, hall, h1, hk, hlow, hE, hB⟩
      refine c_seq (q0 (l_p 4 tbOk rfl (q1 ?_)))
      refine c_ifP _ rfl (fun c16 => ?_) (fun c16 => ?_)
      · refine c_skip (x_seq (c_seq (c_blk (c_seq ?_))))
        refine a_beg Ext rfl ?_
        intro w10 ew10
        replace hE := hE.trans (Below.mono ew10 hB)
        replace h1 := h1.ext ew10
        replace hk := hk.ext ew10
        replace hlow := hlow.ext ew10
        replace hB := Nat.le_trans hB ew10.size
        have hS : Ext w10 w10 := ext_refl _
        have D_h1 := h1
        have D_hk := hk
        refine a_p 0 tbOk rfl rfl rfl rfl (by kernel_rfl) (fun _ _ _ h => h) hS ?_
        refine a_ld 1 tbOk (fun _ hs => (D_h1.ext hs).cell 3 _ rfl) rfl rfl rfl rfl rfl rfl (by kernel_rfl) (fun _ _ _ h => h) hS ?_
        refine a_p 2 tbOk rfl rfl rfl rfl (by kernel_rfl) (fun _ _ _ h => h) hS ?_
        have hik : i < t.kids.length := by omega
        have hd : ks.data[i]? = some (ks.data[i]'(by have := size_data ks; omega)) := Array.getElem?_eq_getElem _
        generalize hcc : (ks.data[i]'(by have := size_data ks; omega)) = dd at hd
        refine a_ixS 3 tbOk D_hk (List.getElem?_eq_getElem hik) rfl rfl rfl rfl rfl rfl rfl rfl rfl rfl (by kernel_rfl) (fun _ _ _ _ h => h) hS ?_
        intro ebx eox eux hyx hatx
        obtain ⟨kvx, rfl, opx, nmx, n64x, hkx⟩ := ty_open hyx
        replace hatx : At M w10 ebx eox [.int .u8 t.kids[i].op, .string t.kids[i].name, .int .i64 t.kids[i].n, kvx] := hatx
        refine a_lds 4 tbOk (fun _ hs j v hv => (hatx.ext hs).cell j v hv) rfl rfl rfl rfl rfl rfl rfl (by kernel_rfl) (fun _ _ _ h => h) hS ?_
        refine a_p 5 tbOk rfl rfl rfl rfl (by kernel_rfl) (fun _ _ _ h => h) hS ?_
        refine a_p 6 tbOk rfl rfl rfl rfl (by kernel_rfl) (fun _ _ _ h => h) hS ?_
        refine a_si 7 tbOk hd rfl rfl rfl rfl rfl rfl rfl rfl (by kernel_rfl) (fun _ _ _ h => h) hS ?_
        refine a_bar 8 rfl (by kernel_rfl) (by kernel_rfl) (o_call fo60 rfl rfl rfl (ih _ (List.getElem_mem hik) dd _ _ _ hyx hlow) ?_)
        rintro _ w11 ⟨rfl, ew11⟩
        replace hS := hS.then ew11
        replace hE := hE.trans (Below.mono ew11 hB)
        replace h1 := h1.ext ew11
        replace hk := hk.ext ew11
        replace hyx := Rep.ext hyx ew11
        replace hkx := hkx.ext ew11
        replace hatx := hatx.ext ew11
        replace hlow := hlow.ext ew11
        replace hB := Nat.le_trans hB ew11.size
        refine a_p 9 tbOk rfl rfl rfl rfl (by kernel_rfl) (fun _ _ _ h => h) hS ?_
        refine a_end (by kernel_rfl) ?_
        refine x_seq ?_
        refine c_ifB _ rfl (fun c17 => ?_) (fun c17 => ?_)
        · refine q0 (l_p 1 tbOk rfl (q1 (c_ret (x_blkR (x_seqR (x_seqR (x_blkR (x_seqR (x_ret1 rfl rfl ?_)))))))))
          exact ⟨by rw [shape_kid hko hik hd c17], hE⟩
        refine c_skip (x_blk (x_seq (c_reg (l_p 1 tbOk rfl ?_))))
        refine l_cons (o_ar rfl rfl rfl (IntWalk.i64_in _ (by omega)) rfl rfl ?_)
        refine l_p 1 tbOk rfl (l_nil ?_)
        exact x_round (i + 1) (s3 rfl rfl rfl) ⟨by omega, kid_step hik hd hall c17, h1, hk, hlow, hE, hB⟩ (by omega)
      refine c_exit (x_seqE (x_seqE (x_blkE (x_seq (q0 (l_p 1 tbOk rfl (q1 (c_ret (x_ret1 rfl rfl ?_)))))))))
      exact ⟨by rw [shape_yes hko hll hsort hhead (fun j x d hx hd => hall j x d (by have := (List.getElem?_eq_some_iff.1 hx).1; omega) hx hd)], hE⟩
    refine l_p 5 tbOk rfl (q1 (c_ifF rfl (c_skip (x_seq (c_seq (q0 (l_p 1 tbOk rfl ?_)))))))
    refine l_cons (o_ld tbOk (h1.cell 2 _ rfl) rfl rfl rfl rfl rfl ?_)
    refine l_p 2 tbOk rfl ?_
    refine l_splitP 54 _ rfl (fun c18 => ?_) (fun c18 => ?_)
    · refine l_p 14 tbOk rfl (q1 (c_ifT rfl (q0 (l_p 1 tbOk rfl (q1 (c_ret (x_seqR (x_ret1 rfl rfl ?_))))))))
      exact ⟨by rw [shape_head (by unfold headOk; simp_all <;> omega)], hE⟩
    refine l_p 1 tbOk rfl ?_
    refine l_cons (o_ld tbOk (h1.cell 0 _ rfl) rfl rfl rfl rfl rfl ?_)
    refine l_p 2 tbOk rfl ?_
    refine l_splitN 58 _ rfl (fun c19 => ?_) (fun c19 => ?_)
    · refine l_p 1 tbOk rfl ?_
      refine l_cons (o_ld tbOk (h1.cell 0 _ rfl) rfl rfl rfl rfl rfl ?_)
      refine l_p 3 tbOk rfl ?_
      refine l_splitN 63 _ rfl (fun c20 => ?_) (fun c20 => ?_)
      · refine l_p 1 tbOk rfl ?_
        refine l_cons (o_ld tbOk (h1.cell 2 _ rfl) rfl rfl rfl rfl rfl ?_)
        refine l_p 3 tbOk rfl (q1 ?_)
        refine c_ifN _ rfl (fun c21 => ?_) (fun c21 => ?_)
        · refine q0 (l_p 1 tbOk rfl (q1 (c_ret (x_seqR (x_ret1 rfl rfl ?_)))))
          exact ⟨by rw [shape_head (by unfold headOk; simp_all <;> omega)], hE⟩
        refine c_skip (x_seq (c_seq (q0 (l_p 1 tbOk rfl (q1 (c_blk ?_))))))
        obtain rfl : bk = true := by simpa using c1
        replace hko : kidsOf t.op = some ks := hko
        have hll : t.kids.length = ks.size := by omega
        have hsort : (decide (8 ≤ t.op) == decide ((c.toNat : Int) = 114)) = true := by simpa using c2
        have hhead : headOk t.op t.name t.n = true := by unfold headOk; simp_all <;> omega
        refine c_loop (X := Nat) (fun i => [(2, .pointer (some ⟨b1, 0, none⟩)), (5, .string ks), (7, .int .i64 (i : Nat))]) (fun i w' => i ≤ t.kids.length ∧ (∀ (j : Nat) x d, j < i → t.kids[j]? = some x → ks.data[j]? = some d → shapeF x d = true) ∧ At M w' b1 0 [.int .u8 t.op, .string t.name, .int .i64 t.n, kv] ∧ Sl M w' kv t.kids ∧ Low M w' ∧ Below w.heap.size w w' ∧ w.heap.size ≤ w'.heap.size) (fun i => t.kids.length - i) (0) (s3 rfl rfl rfl) ?_ ?_
        · exact ⟨Nat.zero_le _, fun j x d hj => absurd hj (Nat.not_lt_zero _), h1, hk, hlow, hE, hB⟩
        rintro i w12 ⟨hi, hall, h1, hk, hlow, hE, hB⟩
        refine c_seq (q0 (l_p 4 tbOk rfl (q1 ?_)))
        refine c_ifP _ rfl (fun c22 => ?_) (fun c22 => ?_)
        · refine c_skip (x_seq (c_seq (c_blk (c_seq ?_))))
          refine a_beg Ext rfl ?_
          intro w13 ew13
          replace hE := hE.trans (Below.mono ew13 hB)
          replace h1 := h1.ext ew13
          replace hk := hk.ext ew13
          replace hlow := hlow.ext ew13
          replace hB := Nat.le_trans hB ew13.size
          have hS : Ext w13 w13 := ext_refl _
          have D_h1 := h1
          have D_hk := hk
          refine a_p 0 tbOk rfl rfl rfl rfl (by kernel_rfl) (fun _ _ _ h => h) hS ?_
          refine a_ld 1 tbOk (fun _ hs => (D_h1.ext hs).cell 3 _ rfl) rfl rfl rfl rfl rfl rfl (by kernel_rfl) (fun _ _ _ h => h) hS ?_
          refine a_p 2 tbOk rfl rfl rfl rfl (by kernel_rfl) (fun _ _ _ h => h) hS ?_
          have hik : i < t.kids.length := by omega
          have hd : ks.data[i]? = some (ks.data[i]'(by have := size_data ks; omega)) := Array.getElem?_eq_getElem _
          generalize hcc : (ks.data[i]'(by have := size_data ks; omega)) = dd at hd
          refine a_ixS 3 tbOk D_hk (List.getElem?_eq_getElem hik) rfl rfl rfl rfl rfl rfl rfl rfl rfl rfl (by kernel_rfl) (fun _ _ _ _ h => h) hS ?_
          intro ebx eox eux hyx hatx
          obtain ⟨kvx, rfl, opx, nmx, n64x, hkx⟩ := ty_open hyx
          replace hatx : At M w13 ebx eox [.int .u8 t.kids[i].op, .string t.kids[i].name, .int .i64 t.kids[i].n, kvx] := hatx
          refine a_lds 4 tbOk (fun _ hs j v hv => (hatx.ext hs).cell j v hv) rfl rfl rfl rfl rfl rfl rfl (by kernel_rfl) (fun _ _ _ h => h) hS ?_
          refine a_p 5 tbOk rfl rfl rfl rfl (by kernel_rfl) (fun _ _ _ h => h) hS ?_
          refine a_p 6 tbOk rfl rfl rfl rfl (by kernel_rfl) (fun _ _ _ h => h) hS ?_
          refine a_si 7 tbOk hd rfl rfl rfl rfl rfl rfl rfl rfl (by kernel_rfl) (fun _ _ _ h => h) hS ?_
          refine a_bar 8 rfl (by kernel_rfl) (by kernel_rfl) (o_call fo60 rfl rfl rfl (ih _ (List.getElem_mem hik) dd _ _ _ hyx hlow) ?_)
          rintro _ w14 ⟨rfl, ew14⟩
          replace hS := hS.then ew14
          replace hE := hE.trans (Below.mono ew14 hB)
          replace h1 := h1.ext ew14
          replace hk := hk.ext ew14
          replace hyx := Rep.ext hyx ew14
          replace hkx := hkx.ext ew14
          replace hatx := hatx.ext ew14
          replace hlow := hlow.ext ew14
          replace hB := Nat.le_trans hB ew14.size
          refine a_p 9 tbOk rfl rfl rfl rfl (by kernel_rfl) (fun _ _ _ h => h) hS ?_
          refine a_end (by kernel_rfl) ?_
          refine x_seq ?_
          refine c_ifB _ rfl (fun c23 => ?_) (fun c23 => ?_)
          · refine q0 (l_p 1 tbOk rfl (q1 (c_ret (x_blkR (x_seqR (x_seqR (x_blkR (x_seqR (x_ret1 rfl rfl ?_)))))))))
            exact ⟨by rw [shape_kid hko hik hd c23], hE⟩
          refine c_skip (x_blk (x_seq (c_reg (l_p 1 tbOk rfl ?_))))
          refine l_cons (o_ar rfl rfl rfl (IntWalk.i64_in _ (by omega)) rfl rfl ?_)
          refine l_p 1 tbOk rfl (l_nil ?_)
          exact x_round (i + 1) (s3 rfl rfl rfl) ⟨by omega, kid_step hik hd hall c23, h1, hk, hlow, hE, hB⟩ (by omega)
        refine c_exit (x_seqE (x_seqE (x_blkE (x_seq (q0 (l_p 1 tbOk rfl (q1 (c_ret (x_ret1 rfl rfl ?_)))))))))
        exact ⟨by rw [shape_yes hko hll hsort hhead (fun j x d hx hd => hall j x d (by have := (List.getElem?_eq_some_iff.1 hx).1; omega) hx hd)], hE⟩
      refine l_p 5 tbOk rfl (q1 (c_ifF rfl (c_skip (x_seq (c_seq (q0 (l_p 1 tbOk rfl (q1 (c_blk ?_)))))))))
      obtain rfl : bk = true := by simpa using c1
      replace hko : kidsOf t.op = some ks := hko
      have hll : t.kids.length = ks.size := by omega
      have hsort : (decide (8 ≤ t.op) == decide ((c.toNat : Int) = 114)) = true := by simpa using c2
      have hhead : headOk t.op t.name t.n = true := by unfold headOk; simp_all <;> omega
      refine c_loop (X := Nat) (fun i => [(2, .pointer (some ⟨b1, 0, none⟩)), (5, .string ks), (7, .int .i64 (i : Nat))]) (fun i w' => i ≤ t.kids.length ∧ (∀ (j : Nat) x d, j < i → t.kids[j]? = some x → ks.data[j]? = some d → shapeF x d = true) ∧ At M w' b1 0 [.int .u8 t.op, .string t.name, .int .i64 t.n, kv] ∧ Sl M w' kv t.kids ∧ Low M w' ∧ Below w.heap.size w w' ∧ w.heap.size ≤ w'.heap.size) (fun i => t.kids.length - i) (0) (s3 rfl rfl rfl) ?_ ?_
      · exact ⟨Nat.zero_le _, fun j x d hj => absurd hj (Nat.not_lt_zero _), h1, hk, hlow, hE, hB⟩
      rintro i w15 ⟨hi, hall, h1, hk, hlow, hE, hB⟩
      refine c_seq (q0 (l_p 4 tbOk rfl (q1 ?_)))
      refine c_ifP _ rfl (fun c24 => ?_) (fun c24 => ?_)
      · refine c_skip (x_seq (c_seq (c_blk (c_seq ?_))))
        refine a_beg Ext rfl ?_
        intro w16 ew16
        replace hE := hE.trans (Below.mono ew16 hB)
        replace h1 := h1.ext ew16
        replace hk := hk.ext ew16
        replace hlow := hlow.ext ew16
        replace hB := Nat.le_trans hB ew16.size
        have hS : Ext w16 w16 := ext_refl _
        have D_h1 := h1
        have D_hk := hk
        refine a_p 0 tbOk rfl rfl rfl rfl (by kernel_rfl) (fun _ _ _ h => h) hS ?_
        refine a_ld 1 tbOk (fun _ hs => (D_h1.ext hs).cell 3 _ rfl) rfl rfl rfl rfl rfl rfl (by kernel_rfl) (fun _ _ _ h => h) hS ?_
        refine a_p 2 tbOk rfl rfl rfl rfl (by kernel_rfl) (fun _ _ _ h => h) hS ?_
        have hik : i < t.kids.length := by omega
        have hd : ks.data[i]? = some (ks.data[i]'(by have := size_data ks; omega)) := Array.getElem?_eq_getElem _
        generalize hcc : (ks.data[i]'(by have := size_data ks; omega)) = dd at hd
        refine a_ixS 3 tbOk D_hk (List.getElem?_eq_getElem hik) rfl rfl rfl rfl rfl rfl rfl rfl rfl rfl (by kernel_rfl) (fun _ _ _ _ h => h) hS ?_
        intro ebx eox eux hyx hatx
        obtain ⟨kvx, rfl, opx, nmx, n64x, hkx⟩ := ty_open hyx
        replace hatx : At M w16 ebx eox [.int .u8 t.kids[i].op, .string t.kids[i].name, .int .i64 t.kids[i].n, kvx] := hatx
        refine a_lds 4 tbOk (fun _ hs j v hv => (hatx.ext hs).cell j v hv) rfl rfl rfl rfl rfl rfl rfl (by kernel_rfl) (fun _ _ _ h => h) hS ?_
        refine a_p 5 tbOk rfl rfl rfl rfl (by kernel_rfl) (fun _ _ _ h => h) hS ?_
        refine a_p 6 tbOk rfl rfl rfl rfl (by kernel_rfl) (fun _ _ _ h => h) hS ?_
        refine a_si 7 tbOk hd rfl rfl rfl rfl rfl rfl rfl rfl (by kernel_rfl) (fun _ _ _ h => h) hS ?_
        refine a_bar 8 rfl (by kernel_rfl) (by kernel_rfl) (o_call fo60 rfl rfl rfl (ih _ (List.getElem_mem hik) dd _ _ _ hyx hlow) ?_)
        rintro _ w17 ⟨rfl, ew17⟩
        replace hS := hS.then ew17
        replace hE := hE.trans (Below.mono ew17 hB)
        replace h1 := h1.ext ew17
        replace hk := hk.ext ew17
        replace hyx := Rep.ext hyx ew17
        replace hkx := hkx.ext ew17
        replace hatx := hatx.ext ew17
        replace hlow := hlow.ext ew17
        replace hB := Nat.le_trans hB ew17.size
        refine a_p 9 tbOk rfl rfl rfl rfl (by kernel_rfl) (fun _ _ _ h => h) hS ?_
        refine a_end (by kernel_rfl) ?_
        refine x_seq ?_
        refine c_ifB _ rfl (fun c25 => ?_) (fun c25 => ?_)
        · refine q0 (l_p 1 tbOk rfl (q1 (c_ret (x_blkR (x_seqR (x_seqR (x_blkR (x_seqR (x_ret1 rfl rfl ?_)))))))))
          exact ⟨by rw [shape_kid hko hik hd c25], hE⟩
        refine c_skip (x_blk (x_seq (c_reg (l_p 1 tbOk rfl ?_))))
        refine l_cons (o_ar rfl rfl rfl (IntWalk.i64_in _ (by omega)) rfl rfl ?_)
        refine l_p 1 tbOk rfl (l_nil ?_)
        exact x_round (i + 1) (s3 rfl rfl rfl) ⟨by omega, kid_step hik hd hall c25, h1, hk, hlow, hE, hB⟩ (by omega)
      refine c_exit (x_seqE (x_seqE (x_blkE (x_seq (q0 (l_p 1 tbOk rfl (q1 (c_ret (x_ret1 rfl rfl ?_)))))))))
      exact ⟨by rw [shape_yes hko hll hsort hhead (fun j x d hx hd => hall j x d (by have := (List.getElem?_eq_some_iff.1 hx).1; omega) hx hd)], hE⟩
    refine l_p 10 tbOk rfl (q1 (c_ifF rfl (c_skip (x_seq (c_seq (q0 (l_p 1 tbOk rfl (q1 (c_blk ?_)))))))))
    obtain rfl : bk = true := by simpa using c1
    replace hko : kidsOf t.op = some ks := hko
    have hll : t.kids.length = ks.size := by omega
    have hsort : (decide (8 ≤ t.op) == decide ((c.toNat : Int) = 114)) = true := by simpa using c2
    have hhead : headOk t.op t.name t.n = true := by unfold headOk; simp_all <;> omega
    refine c_loop (X := Nat) (fun i => [(2, .pointer (some ⟨b1, 0, none⟩)), (5, .string ks), (7, .int .i64 (i : Nat))]) (fun i w' => i ≤ t.kids.length ∧ (∀ (j : Nat) x d, j < i → t.kids[j]? = some x → ks.data[j]? = some d → shapeF x d = true) ∧ At M w' b1 0 [.int .u8 t.op, .string t.name, .int .i64 t.n, kv] ∧ Sl M w' kv t.kids ∧ Low M w' ∧ Below w.heap.size w w' ∧ w.heap.size ≤ w'.heap.size) (fun i => t.kids.length - i) (0) (s3 rfl rfl rfl) ?_ ?_
    · exact ⟨Nat.zero_le _, fun j x d hj => absurd hj (Nat.not_lt_zero _), h1, hk, hlow, hE, hB⟩
    rintro i w18 ⟨hi, hall, h1, hk, hlow, hE, hB⟩
    refine c_seq (q0 (l_p 4 tbOk rfl (q1 ?_)))
    refine c_ifP _ rfl (fun c26 => ?_) (fun c26 => ?_)
    · refine c_skip (x_seq (c_seq (c_blk (c_seq ?_))))
      refine a_beg Ext rfl ?_
      intro w19 ew19
      replace hE := hE.trans (Below.mono ew19 hB)
      replace h1 := h1.ext ew19
      replace hk := hk.ext ew19
      replace hlow := hlow.ext ew19
      replace hB := Nat.le_trans hB ew19.size
      have hS : Ext w19 w19 := ext_refl _
      have D_h1 := h1
      have D_hk := hk
      refine a_p 0 tbOk rfl rfl rfl rfl (by kernel_rfl) (fun _ _ _ h => h) hS ?_
      refine a_ld 1 tbOk (fun _ hs => (D_h1.ext hs).cell 3 _ rfl) rfl rfl rfl rfl rfl rfl (by kernel_rfl) (fun _ _ _ h => h) hS ?_
      refine a_p 2 tbOk rfl rfl rfl rfl (by kernel_rfl) (fun _ _ _ h => h) hS ?_
      have hik : i < t.kids.length := by omega
      have hd : ks.data[i]? = some (ks.data[i]'(by have := size_data ks; omega)) := Array.getElem?_eq_getElem _
      generalize hcc : (ks.data[i]'(by have := size_data ks; omega)) = dd at hd
      refine a_ixS 3 tbOk D_hk (List.getElem?_eq_getElem hik) rfl rfl rfl rfl rfl rfl rfl rfl rfl rfl (by kernel_rfl) (fun _ _ _ _ h => h) hS ?_
      intro ebx eox eux hyx hatx
      obtain ⟨kvx, rfl, opx, nmx, n64x, hkx⟩ := ty_open hyx
      replace hatx : At M w19 ebx eox [.int .u8 t.kids[i].op, .string t.kids[i].name, .int .i64 t.kids[i].n, kvx] := hatx
      refine a_lds 4 tbOk (fun _ hs j v hv => (hatx.ext hs).cell j v hv) rfl rfl rfl rfl rfl rfl rfl (by kernel_rfl) (fun _ _ _ h => h) hS ?_
      refine a_p 5 tbOk rfl rfl rfl rfl (by kernel_rfl) (fun _ _ _ h => h) hS ?_
      refine a_p 6 tbOk rfl rfl rfl rfl (by kernel_rfl) (fun _ _ _ h => h) hS ?_
      refine a_si 7 tbOk hd rfl rfl rfl rfl rfl rfl rfl rfl (by kernel_rfl) (fun _ _ _ h => h) hS ?_
      refine a_bar 8 rfl (by kernel_rfl) (by kernel_rfl) (o_call fo60 rfl rfl rfl (ih _ (List.getElem_mem hik) dd _ _ _ hyx hlow) ?_)
      rintro _ w20 ⟨rfl, ew20⟩
      replace hS := hS.then ew20
      replace hE := hE.trans (Below.mono ew20 hB)
      replace h1 := h1.ext ew20
      replace hk := hk.ext ew20
      replace hyx := Rep.ext hyx ew20
      replace hkx := hkx.ext ew20
      replace hatx := hatx.ext ew20
      replace hlow := hlow.ext ew20
      replace hB := Nat.le_trans hB ew20.size
      refine a_p 9 tbOk rfl rfl rfl rfl (by kernel_rfl) (fun _ _ _ h => h) hS ?_
      refine a_end (by kernel_rfl) ?_
      refine x_seq ?_
      refine c_ifB _ rfl (fun c27 => ?_) (fun c27 => ?_)
      · refine q0 (l_p 1 tbOk rfl (q1 (c_ret (x_blkR (x_seqR (x_seqR (x_blkR (x_seqR (x_ret1 rfl rfl ?_)))))))))
        exact ⟨by rw [shape_kid hko hik hd c27], hE⟩
      refine c_skip (x_blk (x_seq (c_reg (l_p 1 tbOk rfl ?_))))
      refine l_cons (o_ar rfl rfl rfl (IntWalk.i64_in _ (by omega)) rfl rfl ?_)
      refine l_p 1 tbOk rfl (l_nil ?_)
      exact x_round (i + 1) (s3 rfl rfl rfl) ⟨by omega, kid_step hik hd hall c27, h1, hk, hlow, hE, hB⟩ (by omega)
    refine c_exit (x_seqE (x_seqE (x_blkE (x_seq (q0 (l_p 1 tbOk rfl (q1 (c_ret (x_ret1 rfl rfl ?_)))))))))
    exact ⟨by rw [shape_yes hko hll hsort hhead (fun j x d hx hd => hall j x d (by have := (List.getElem?_eq_some_iff.1 hx).1; omega) hx hd)], hE⟩
  refine l_p 7 tbOk rfl ?_
  refine l_cons (o_ld tbOk (h1.cell 0 _ rfl) rfl rfl rfl rfl rfl ?_)
  refine l_p 2 tbOk rfl ?_
  refine l_splitN 45 _ rfl (fun c28 => ?_) (fun c28 => ?_)
  · refine l_p 1 tbOk rfl ?_
    refine l_cons (o_ld tbOk (h1.cell 1 _ rfl) rfl rfl rfl rfl rfl ?_)
    refine l_p 3 tbOk rfl (q1 ?_)
    refine c_ifN _ rfl (fun c29 => ?_) (fun c29 => ?_)
    · refine q0 (l_p 1 tbOk rfl (q1 (c_ret (x_seqR (x_ret1 rfl rfl ?_)))))
      exact ⟨by rw [shape_head (by unfold headOk; simp_all <;> omega)], hE⟩
    refine c_skip (x_seq (c_seq (q0 (l_p 1 tbOk rfl ?_))))
    refine l_cons (o_ld tbOk (h1.cell 2 _ rfl) rfl rfl rfl rfl rfl ?_)
    refine l_p 2 tbOk rfl ?_
    refine l_splitP 54 _ rfl (fun c30 => ?_) (fun c30 => ?_)
    · refine l_p 14 tbOk rfl (q1 (c_ifT rfl (q0 (l_p 1 tbOk rfl (q1 (c_ret (x_seqR (x_ret1 rfl rfl ?_))))))))
      exact ⟨by rw [shape_head (by unfold headOk; simp_all <;> omega)], hE⟩
    refine l_p 1 tbOk rfl ?_
    refine l_cons (o_ld tbOk (h1.cell 0 _ rfl) rfl rfl rfl rfl rfl ?_)
    refine l_p 2 tbOk rfl ?_
    refine l_splitN 58 _ rfl (fun c31 => ?_) (fun c31 => ?_)
    · refine l_p 1 tbOk rfl ?_
      refine l_cons (o_ld tbOk (h1.cell 0 _ rfl) rfl rfl rfl rfl rfl ?_)
      refine l_p 3 tbOk rfl ?_
      refine l_splitN 63 _ rfl (fun c32 => ?_) (fun c32 => ?_)
      · refine l_p 1 tbOk rfl ?_
        refine l_cons (o_ld tbOk (h1.cell 2 _ rfl) rfl rfl rfl rfl rfl ?_)
        refine l_p 3 tbOk rfl (q1 ?_)
        refine c_ifN _ rfl (fun c33 => ?_) (fun c33 => ?_)
        · refine q0 (l_p 1 tbOk rfl (q1 (c_ret (x_seqR (x_ret1 rfl rfl ?_)))))
          exact ⟨by rw [shape_head (by unfold headOk; simp_all <;> omega)], hE⟩
        refine c_skip (x_seq (c_seq (q0 (l_p 1 tbOk rfl (q1 (c_blk ?_))))))
        obtain rfl : bk = true := by simpa using c1
        replace hko : kidsOf t.op = some ks := hko
        have hll : t.kids.length = ks.size := by omega
        have hsort : (decide (8 ≤ t.op) == decide ((c.toNat : Int) = 114)) = true := by simpa using c2
        have hhead : headOk t.op t.name t.n = true := by unfold headOk; simp_all <;> omega
        refine c_loop (X := Nat) (fun i => [(2, .pointer (some ⟨b1, 0, none⟩)), (5, .string ks), (7, .int .i64 (i : Nat))]) (fun i w' => i ≤ t.kids.length ∧ (∀ (j : Nat) x d, j < i → t.kids[j]? = some x → ks.data[j]? = some d → shapeF x d = true) ∧ At M w' b1 0 [.int .u8 t.op, .string t.name, .int .i64 t.n, kv] ∧ Sl M w' kv t.kids ∧ Low M w' ∧ Below w.heap.size w w' ∧ w.heap.size ≤ w'.heap.size) (fun i => t.kids.length - i) (0) (s3 rfl rfl rfl) ?_ ?_
        · exact ⟨Nat.zero_le _, fun j x d hj => absurd hj (Nat.not_lt_zero _), h1, hk, hlow, hE, hB⟩
        rintro i w21 ⟨hi, hall, h1, hk, hlow, hE, hB⟩
        refine c_seq (q0 (l_p 4 tbOk rfl (q1 ?_)))
        refine c_ifP _ rfl (fun c34 => ?_) (fun c34 => ?_)
        · refine c_skip (x_seq (c_seq (c_blk (c_seq ?_))))
          refine a_beg Ext rfl ?_
          intro w22 ew22
          replace hE := hE.trans (Below.mono ew22 hB)
          replace h1 := h1.ext ew22
          replace hk := hk.ext ew22
          replace hlow := hlow.ext ew22
          replace hB := Nat.le_trans hB ew22.size
          have hS : Ext w22 w22 := ext_refl _
          have D_h1 := h1
          have D_hk := hk
          refine a_p 0 tbOk rfl rfl rfl rfl (by kernel_rfl) (fun _ _ _ h => h) hS ?_
          refine a_ld 1 tbOk (fun _ hs => (D_h1.ext hs).cell 3 _ rfl) rfl rfl rfl rfl rfl rfl (by kernel_rfl) (fun _ _ _ h => h) hS ?_
          refine a_p 2 tbOk rfl rfl rfl rfl (by kernel_rfl) (fun _ _ _ h => h) hS ?_
          have hik : i < t.kids.length := by omega
          have hd : ks.data[i]? = some (ks.data[i]'(by have := size_data ks; omega)) := Array.getElem?_eq_getElem _
          generalize hcc : (ks.data[i]'(by have := size_data ks; omega)) = dd at hd
          refine a_ixS 3 tbOk D_hk (List.getElem?_eq_getElem hik) rfl rfl rfl rfl rfl rfl rfl rfl rfl rfl (by kernel_rfl) (fun _ _ _ _ h => h) hS ?_
          intro ebx eox eux hyx hatx
          obtain ⟨kvx, rfl, opx, nmx, n64x, hkx⟩ := ty_open hyx
          replace hatx : At M w22 ebx eox [.int .u8 t.kids[i].op, .string t.kids[i].name, .int .i64 t.kids[i].n, kvx] := hatx
          refine a_lds 4 tbOk (fun _ hs j v hv => (hatx.ext hs).cell j v hv) rfl rfl rfl rfl rfl rfl rfl (by kernel_rfl) (fun _ _ _ h => h) hS ?_
          refine a_p 5 tbOk rfl rfl rfl rfl (by kernel_rfl) (fun _ _ _ h => h) hS ?_
          refine a_p 6 tbOk rfl rfl rfl rfl (by kernel_rfl) (fun _ _ _ h => h) hS ?_
          refine a_si 7 tbOk hd rfl rfl rfl rfl rfl rfl rfl rfl (by kernel_rfl) (fun _ _ _ h => h) hS ?_
          refine a_bar 8 rfl (by kernel_rfl) (by kernel_rfl) (o_call fo60 rfl rfl rfl (ih _ (List.getElem_mem hik) dd _ _ _ hyx hlow) ?_)
          rintro _ w23 ⟨rfl, ew23⟩
          replace hS := hS.then ew23
          replace hE := hE.trans (Below.mono ew23 hB)
          replace h1 := h1.ext ew23
          replace hk := hk.ext ew23
          replace hyx := Rep.ext hyx ew23
          replace hkx := hkx.ext ew23
          replace hatx := hatx.ext ew23
          replace hlow := hlow.ext ew23
          replace hB := Nat.le_trans hB ew23.size
          refine a_p 9 tbOk rfl rfl rfl rfl (by kernel_rfl) (fun _ _ _ h => h) hS ?_
          refine a_end (by kernel_rfl) ?_
          refine x_seq ?_
          refine c_ifB _ rfl (fun c35 => ?_) (fun c35 => ?_)
          · refine q0 (l_p 1 tbOk rfl (q1 (c_ret (x_blkR (x_seqR (x_seqR (x_blkR (x_seqR (x_ret1 rfl rfl ?_)))))))))
            exact ⟨by rw [shape_kid hko hik hd c35], hE⟩
          refine c_skip (x_blk (x_seq (c_reg (l_p 1 tbOk rfl ?_))))
          refine l_cons (o_ar rfl rfl rfl (IntWalk.i64_in _ (by omega)) rfl rfl ?_)
          refine l_p 1 tbOk rfl (l_nil ?_)
          exact x_round (i + 1) (s3 rfl rfl rfl) ⟨by omega, kid_step hik hd hall c35, h1, hk, hlow, hE, hB⟩ (by omega)
        refine c_exit (x_seqE (x_seqE (x_blkE (x_seq (q0 (l_p 1 tbOk rfl (q1 (c_ret (x_ret1 rfl rfl ?_)))))))))
        exact ⟨by rw [shape_yes hko hll hsort hhead (fun j x d hx hd => hall j x d (by have := (List.getElem?_eq_some_iff.1 hx).1; omega) hx hd)], hE⟩
      refine l_p 5 tbOk rfl (q1 (c_ifF rfl (c_skip (x_seq (c_seq (q0 (l_p 1 tbOk rfl (q1 (c_blk ?_)))))))))
      obtain rfl : bk = true := by simpa using c1
      replace hko : kidsOf t.op = some ks := hko
      have hll : t.kids.length = ks.size := by omega
      have hsort : (decide (8 ≤ t.op) == decide ((c.toNat : Int) = 114)) = true := by simpa using c2
      have hhead : headOk t.op t.name t.n = true := by unfold headOk; simp_all <;> omega
      refine c_loop (X := Nat) (fun i => [(2, .pointer (some ⟨b1, 0, none⟩)), (5, .string ks), (7, .int .i64 (i : Nat))]) (fun i w' => i ≤ t.kids.length ∧ (∀ (j : Nat) x d, j < i → t.kids[j]? = some x → ks.data[j]? = some d → shapeF x d = true) ∧ At M w' b1 0 [.int .u8 t.op, .string t.name, .int .i64 t.n, kv] ∧ Sl M w' kv t.kids ∧ Low M w' ∧ Below w.heap.size w w' ∧ w.heap.size ≤ w'.heap.size) (fun i => t.kids.length - i) (0) (s3 rfl rfl rfl) ?_ ?_
      · exact ⟨Nat.zero_le _, fun j x d hj => absurd hj (Nat.not_lt_zero _), h1, hk, hlow, hE, hB⟩
      rintro i w24 ⟨hi, hall, h1, hk, hlow, hE, hB⟩
      refine c_seq (q0 (l_p 4 tbOk rfl (q1 ?_)))
      refine c_ifP _ rfl (fun c36 => ?_) (fun c36 => ?_)
      · refine c_skip (x_seq (c_seq (c_blk (c_seq ?_))))
        refine a_beg Ext rfl ?_
        intro w25 ew25
        replace hE := hE.trans (Below.mono ew25 hB)
        replace h1 := h1.ext ew25
        replace hk := hk.ext ew25
        replace hlow := hlow.ext ew25
        replace hB := Nat.le_trans hB ew25.size
        have hS : Ext w25 w25 := ext_refl _
        have D_h1 := h1
        have D_hk := hk
        refine a_p 0 tbOk rfl rfl rfl rfl (by kernel_rfl) (fun _ _ _ h => h) hS ?_
        refine a_ld 1 tbOk (fun _ hs => (D_h1.ext hs).cell 3 _ rfl) rfl rfl rfl rfl rfl rfl (by kernel_rfl) (fun _ _ _ h => h) hS ?_
        refine a_p 2 tbOk rfl rfl rfl rfl (by kernel_rfl) (fun _ _ _ h => h) hS ?_
        have hik : i < t.kids.length := by omega
        have hd : ks.data[i]? = some (ks.data[i]'(by have := size_data ks; omega)) := Array.getElem?_eq_getElem _
        generalize hcc : (ks.data[i]'(by have := size_data ks; omega)) = dd at hd
        refine a_ixS 3 tbOk D_hk (List.getElem?_eq_getElem hik) rfl rfl rfl rfl rfl rfl rfl rfl rfl rfl (by kernel_rfl) (fun _ _ _ _ h => h) hS ?_
        intro ebx eox eux hyx hatx
        obtain ⟨kvx, rfl, opx, nmx, n64x, hkx⟩ := ty_open hyx
        replace hatx : At M w25 ebx eox [.int .u8 t.kids[i].op, .string t.kids[i].name, .int .i64 t.kids[i].n, kvx] := hatx
        refine a_lds 4 tbOk (fun _ hs j v hv => (hatx.ext hs).cell j v hv) rfl rfl rfl rfl rfl rfl rfl (by kernel_rfl) (fun _ _ _ h => h) hS ?_
        refine a_p 5 tbOk rfl rfl rfl rfl (by kernel_rfl) (fun _ _ _ h => h) hS ?_
        refine a_p 6 tbOk rfl rfl rfl rfl (by kernel_rfl) (fun _ _ _ h => h) hS ?_
        refine a_si 7 tbOk hd rfl rfl rfl rfl rfl rfl rfl rfl (by kernel_rfl) (fun _ _ _ h => h) hS ?_
        refine a_bar 8 rfl (by kernel_rfl) (by kernel_rfl) (o_call fo60 rfl rfl rfl (ih _ (List.getElem_mem hik) dd _ _ _ hyx hlow) ?_)
        rintro _ w26 ⟨rfl, ew26⟩
        replace hS := hS.then ew26
        replace hE := hE.trans (Below.mono ew26 hB)
        replace h1 := h1.ext ew26
        replace hk := hk.ext ew26
        replace hyx := Rep.ext hyx ew26
        replace hkx := hkx.ext ew26
        replace hatx := hatx.ext ew26
        replace hlow := hlow.ext ew26
        replace hB := Nat.le_trans hB ew26.size
        refine a_p 9 tbOk rfl rfl rfl rfl (by kernel_rfl) (fun _ _ _ h => h) hS ?_
        refine a_end (by kernel_rfl) ?_
        refine x_seq ?_
        refine c_ifB _ rfl (fun c37 => ?_) (fun c37 => ?_)
        · refine q0 (l_p 1 tbOk rfl (q1 (c_ret (x_blkR (x_seqR (x_seqR (x_blkR (x_seqR (x_ret1 rfl rfl ?_)))))))))
          exact ⟨by rw [shape_kid hko hik hd c37], hE⟩
        refine c_skip (x_blk (x_seq (c_reg (l_p 1 tbOk rfl ?_))))
        refine l_cons (o_ar rfl rfl rfl (IntWalk.i64_in _ (by omega)) rfl rfl ?_)
        refine l_p 1 tbOk rfl (l_nil ?_)
        exact x_round (i + 1) (s3 rfl rfl rfl) ⟨by omega, kid_step hik hd hall c37, h1, hk, hlow, hE, hB⟩ (by omega)
      refine c_exit (x_seqE (x_seqE (x_blkE (x_seq (q0 (l_p 1 tbOk rfl (q1 (c_ret (x_ret1 rfl rfl ?_)))))))))
      exact ⟨by rw [shape_yes hko hll hsort hhead (fun j x d hx hd => hall j x d (by have := (List.getElem?_eq_some_iff.1 hx).1; omega) hx hd)], hE⟩
    refine l_p 10 tbOk rfl (q1 (c_ifF rfl (c_skip (x_seq (c_seq (q0 (l_p 1 tbOk rfl (q1 (c_blk ?_)))))))))
    obtain rfl : bk = true := by simpa using c1
    replace hko : kidsOf t.op = some ks := hko
    have hll : t.kids.length = ks.size := by omega
    have hsort : (decide (8 ≤ t.op) == decide ((c.toNat : Int) = 114)) = true := by simpa using c2
    have hhead : headOk t.op t.name t.n = true := by unfold headOk; simp_all <;> omega
    refine c_loop (X := Nat) (fun i => [(2, .pointer (some ⟨b1, 0, none⟩)), (5, .string ks), (7, .int .i64 (i : Nat))]) (fun i w' => i ≤ t.kids.length ∧ (∀ (j : Nat) x d, j < i → t.kids[j]? = some x → ks.data[j]? = some d → shapeF x d = true) ∧ At M w' b1 0 [.int .u8 t.op, .string t.name, .int .i64 t.n, kv] ∧ Sl M w' kv t.kids ∧ Low M w' ∧ Below w.heap.size w w' ∧ w.heap.size ≤ w'.heap.size) (fun i => t.kids.length - i) (0) (s3 rfl rfl rfl) ?_ ?_
    · exact ⟨Nat.zero_le _, fun j x d hj => absurd hj (Nat.not_lt_zero _), h1, hk, hlow, hE, hB⟩
    rintro i w27 ⟨hi, hall, h1, hk, hlow, hE, hB⟩
    refine c_seq (q0 (l_p 4 tbOk rfl (q1 ?_)))
    refine c_ifP _ rfl (fun c38 => ?_) (fun c38 => ?_)
    · refine c_skip (x_seq (c_seq (c_blk (c_seq ?_))))
      refine a_beg Ext rfl ?_
      intro w28 ew28
      replace hE := hE.trans (Below.mono ew28 hB)
      replace h1 := h1.ext ew28
      replace hk := hk.ext ew28
      replace hlow := hlow.ext ew28
      replace hB := Nat.le_trans hB ew28.size
      have hS : Ext w28 w28 := ext_refl _
      have D_h1 := h1
      have D_hk := hk
      refine a_p 0 tbOk rfl rfl rfl rfl (by kernel_rfl) (fun _ _ _ h => h) hS ?_
      refine a_ld 1 tbOk (fun _ hs => (D_h1.ext hs).cell 3 _ rfl) rfl rfl rfl rfl rfl rfl (by kernel_rfl) (fun _ _ _ h => h) hS ?_
      refine a_p 2 tbOk rfl rfl rfl rfl (by kernel_rfl) (fun _ _ _ h => h) hS ?_
      have hik : i < t.kids.length := by omega
      have hd : ks.data[i]? = some (ks.data[i]'(by have := size_data ks; omega)) := Array.getElem?_eq_getElem _
      generalize hcc : (ks.data[i]'(by have := size_data ks; omega)) = dd at hd
      refine a_ixS 3 tbOk D_hk (List.getElem?_eq_getElem hik) rfl rfl rfl rfl rfl rfl rfl rfl rfl rfl (by kernel_rfl) (fun _ _ _ _ h => h) hS ?_
      intro ebx eox eux hyx hatx
      obtain ⟨kvx, rfl, opx, nmx, n64x, hkx⟩ := ty_open hyx
      replace hatx : At M w28 ebx eox [.int .u8 t.kids[i].op, .string t.kids[i].name, .int .i64 t.kids[i].n, kvx] := hatx
      refine a_lds 4 tbOk (fun _ hs j v hv => (hatx.ext hs).cell j v hv) rfl rfl rfl rfl rfl rfl rfl (by kernel_rfl) (fun _ _ _ h => h) hS ?_
      refine a_p 5 tbOk rfl rfl rfl rfl (by kernel_rfl) (fun _ _ _ h => h) hS ?_
      refine a_p 6 tbOk rfl rfl rfl rfl (by kernel_rfl) (fun _ _ _ h => h) hS ?_
      refine a_si 7 tbOk hd rfl rfl rfl rfl rfl rfl rfl rfl (by kernel_rfl) (fun _ _ _ h => h) hS ?_
      refine a_bar 8 rfl (by kernel_rfl) (by kernel_rfl) (o_call fo60 rfl rfl rfl (ih _ (List.getElem_mem hik) dd _ _ _ hyx hlow) ?_)
      rintro _ w29 ⟨rfl, ew29⟩
      replace hS := hS.then ew29
      replace hE := hE.trans (Below.mono ew29 hB)
      replace h1 := h1.ext ew29
      replace hk := hk.ext ew29
      replace hyx := Rep.ext hyx ew29
      replace hkx := hkx.ext ew29
      replace hatx := hatx.ext ew29
      replace hlow := hlow.ext ew29
      replace hB := Nat.le_trans hB ew29.size
      refine a_p 9 tbOk rfl rfl rfl rfl (by kernel_rfl) (fun _ _ _ h => h) hS ?_
      refine a_end (by kernel_rfl) ?_
      refine x_seq ?_
      refine c_ifB _ rfl (fun c39 => ?_) (fun c39 => ?_)
      · refine q0 (l_p 1 tbOk rfl (q1 (c_ret (x_blkR (x_seqR (x_seqR (x_blkR (x_seqR (x_ret1 rfl rfl ?_)))))))))
        exact ⟨by rw [shape_kid hko hik hd c39], hE⟩
      refine c_skip (x_blk (x_seq (c_reg (l_p 1 tbOk rfl ?_))))
      refine l_cons (o_ar rfl rfl rfl (IntWalk.i64_in _ (by omega)) rfl rfl ?_)
      refine l_p 1 tbOk rfl (l_nil ?_)
      exact x_round (i + 1) (s3 rfl rfl rfl) ⟨by omega, kid_step hik hd hall c39, h1, hk, hlow, hE, hB⟩ (by omega)
    refine c_exit (x_seqE (x_seqE (x_blkE (x_seq (q0 (l_p 1 tbOk rfl (q1 (c_ret (x_ret1 rfl rfl ?_)))))))))
    exact ⟨by rw [shape_yes hko hll hsort hhead (fun j x d hx hd => hall j x d (by have := (List.getElem?_eq_some_iff.1 hx).1; omega) hx hd)], hE⟩
  refine l_p 5 tbOk rfl (q1 (c_ifF rfl (c_skip (x_seq (c_seq (q0 (l_p 1 tbOk rfl ?_)))))))
  refine l_cons (o_ld tbOk (h1.cell 2 _ rfl) rfl rfl rfl rfl rfl ?_)
  refine l_p 2 tbOk rfl ?_
  refine l_splitP 54 _ rfl (fun c40 => ?_) (fun c40 => ?_)
  · refine l_p 14 tbOk rfl (q1 (c_ifT rfl (q0 (l_p 1 tbOk rfl (q1 (c_ret (x_seqR (x_ret1 rfl rfl ?_))))))))
    exact ⟨by rw [shape_head (by unfold headOk; simp_all <;> omega)], hE⟩
  refine l_p 1 tbOk rfl ?_
  refine l_cons (o_ld tbOk (h1.cell 0 _ rfl) rfl rfl rfl rfl rfl ?_)
  refine l_p 2 tbOk rfl ?_
  refine l_splitN 58 _ rfl (fun c41 => ?_) (fun c41 => ?_)
  · refine l_p 1 tbOk rfl ?_
    refine l_cons (o_ld tbOk (h1.cell 0 _ rfl) rfl rfl rfl rfl rfl ?_)
    refine l_p 3 tbOk rfl ?_
    refine l_splitN 63 _ rfl (fun c42 => ?_) (fun c42 => ?_)
    · refine l_p 1 tbOk rfl ?_
      refine l_cons (o_ld tbOk (h1.cell 2 _ rfl) rfl rfl rfl rfl rfl ?_)
      refine l_p 3 tbOk rfl (q1 ?_)
      refine c_ifN _ rfl (fun c43 => ?_) (fun c43 => ?_)
      · refine q0 (l_p 1 tbOk rfl (q1 (c_ret (x_seqR (x_ret1 rfl rfl ?_)))))
        exact ⟨by rw [shape_head (by unfold headOk; simp_all <;> omega)], hE⟩
      refine c_skip (x_seq (c_seq (q0 (l_p 1 tbOk rfl (q1 (c_blk ?_))))))
      obtain rfl : bk = true := by simpa using c1
      replace hko : kidsOf t.op = some ks := hko
      have hll : t.kids.length = ks.size := by omega
      have hsort : (decide (8 ≤ t.op) == decide ((c.toNat : Int) = 114)) = true := by simpa using c2
      have hhead : headOk t.op t.name t.n = true := by unfold headOk; simp_all <;> omega
      refine c_loop (X := Nat) (fun i => [(2, .pointer (some ⟨b1, 0, none⟩)), (5, .string ks), (7, .int .i64 (i : Nat))]) (fun i w' => i ≤ t.kids.length ∧ (∀ (j : Nat) x d, j < i → t.kids[j]? = some x → ks.data[j]? = some d → shapeF x d = true) ∧ At M w' b1 0 [.int .u8 t.op, .string t.name, .int .i64 t.n, kv] ∧ Sl M w' kv t.kids ∧ Low M w' ∧ Below w.heap.size w w' ∧ w.heap.size ≤ w'.heap.size) (fun i => t.kids.length - i) (0) (s3 rfl rfl rfl) ?_ ?_
      · exact ⟨Nat.zero_le _, fun j x d hj => absurd hj (Nat.not_lt_zero _), h1, hk, hlow, hE, hB⟩
      rintro i w30 ⟨hi, hall, h1, hk, hlow, hE, hB⟩
      refine c_seq (q0 (l_p 4 tbOk rfl (q1 ?_)))
      refine c_ifP _ rfl (fun c44 => ?_) (fun c44 => ?_)
      · refine c_skip (x_seq (c_seq (c_blk (c_seq ?_))))
        refine a_beg Ext rfl ?_
        intro w31 ew31
        replace hE := hE.trans (Below.mono ew31 hB)
        replace h1 := h1.ext ew31
        replace hk := hk.ext ew31
        replace hlow := hlow.ext ew31
        replace hB := Nat.le_trans hB ew31.size
        have hS : Ext w31 w31 := ext_refl _
        have D_h1 := h1
        have D_hk := hk
        refine a_p 0 tbOk rfl rfl rfl rfl (by kernel_rfl) (fun _ _ _ h => h) hS ?_
        refine a_ld 1 tbOk (fun _ hs => (D_h1.ext hs).cell 3 _ rfl) rfl rfl rfl rfl rfl rfl (by kernel_rfl) (fun _ _ _ h => h) hS ?_
        refine a_p 2 tbOk rfl rfl rfl rfl (by kernel_rfl) (fun _ _ _ h => h) hS ?_
        have hik : i < t.kids.length := by omega
        have hd : ks.data[i]? = some (ks.data[i]'(by have := size_data ks; omega)) := Array.getElem?_eq_getElem _
        generalize hcc : (ks.data[i]'(by have := size_data ks; omega)) = dd at hd
        refine a_ixS 3 tbOk D_hk (List.getElem?_eq_getElem hik) rfl rfl rfl rfl rfl rfl rfl rfl rfl rfl (by kernel_rfl) (fun _ _ _ _ h => h) hS ?_
        intro ebx eox eux hyx hatx
        obtain ⟨kvx, rfl, opx, nmx, n64x, hkx⟩ := ty_open hyx
        replace hatx : At M w31 ebx eox [.int .u8 t.kids[i].op, .string t.kids[i].name, .int .i64 t.kids[i].n, kvx] := hatx
        refine a_lds 4 tbOk (fun _ hs j v hv => (hatx.ext hs).cell j v hv) rfl rfl rfl rfl rfl rfl rfl (by kernel_rfl) (fun _ _ _ h => h) hS ?_
        refine a_p 5 tbOk rfl rfl rfl rfl (by kernel_rfl) (fun _ _ _ h => h) hS ?_
        refine a_p 6 tbOk rfl rfl rfl rfl (by kernel_rfl) (fun _ _ _ h => h) hS ?_
        refine a_si 7 tbOk hd rfl rfl rfl rfl rfl rfl rfl rfl (by kernel_rfl) (fun _ _ _ h => h) hS ?_
        refine a_bar 8 rfl (by kernel_rfl) (by kernel_rfl) (o_call fo60 rfl rfl rfl (ih _ (List.getElem_mem hik) dd _ _ _ hyx hlow) ?_)
        rintro _ w32 ⟨rfl, ew32⟩
        replace hS := hS.then ew32
        replace hE := hE.trans (Below.mono ew32 hB)
        replace h1 := h1.ext ew32
        replace hk := hk.ext ew32
        replace hyx := Rep.ext hyx ew32
        replace hkx := hkx.ext ew32
        replace hatx := hatx.ext ew32
        replace hlow := hlow.ext ew32
        replace hB := Nat.le_trans hB ew32.size
        refine a_p 9 tbOk rfl rfl rfl rfl (by kernel_rfl) (fun _ _ _ h => h) hS ?_
        refine a_end (by kernel_rfl) ?_
        refine x_seq ?_
        refine c_ifB _ rfl (fun c45 => ?_) (fun c45 => ?_)
        · refine q0 (l_p 1 tbOk rfl (q1 (c_ret (x_blkR (x_seqR (x_seqR (x_blkR (x_seqR (x_ret1 rfl rfl ?_)))))))))
          exact ⟨by rw [shape_kid hko hik hd c45], hE⟩
        refine c_skip (x_blk (x_seq (c_reg (l_p 1 tbOk rfl ?_))))
        refine l_cons (o_ar rfl rfl rfl (IntWalk.i64_in _ (by omega)) rfl rfl ?_)
        refine l_p 1 tbOk rfl (l_nil ?_)
        exact x_round (i + 1) (s3 rfl rfl rfl) ⟨by omega, kid_step hik hd hall c45, h1, hk, hlow, hE, hB⟩ (by omega)
      refine c_exit (x_seqE (x_seqE (x_blkE (x_seq (q0 (l_p 1 tbOk rfl (q1 (c_ret (x_ret1 rfl rfl ?_)))))))))
      exact ⟨by rw [shape_yes hko hll hsort hhead (fun j x d hx hd => hall j x d (by have := (List.getElem?_eq_some_iff.1 hx).1; omega) hx hd)], hE⟩
    refine l_p 5 tbOk rfl (q1 (c_ifF rfl (c_skip (x_seq (c_seq (q0 (l_p 1 tbOk rfl (q1 (c_blk ?_)))))))))
    obtain rfl : bk = true := by simpa using c1
    replace hko : kidsOf t.op = some ks := hko
    have hll : t.kids.length = ks.size := by omega
    have hsort : (decide (8 ≤ t.op) == decide ((c.toNat : Int) = 114)) = true := by simpa using c2
    have hhead : headOk t.op t.name t.n = true := by unfold headOk; simp_all <;> omega
    refine c_loop (X := Nat) (fun i => [(2, .pointer (some ⟨b1, 0, none⟩)), (5, .string ks), (7, .int .i64 (i : Nat))]) (fun i w' => i ≤ t.kids.length ∧ (∀ (j : Nat) x d, j < i → t.kids[j]? = some x → ks.data[j]? = some d → shapeF x d = true) ∧ At M w' b1 0 [.int .u8 t.op, .string t.name, .int .i64 t.n, kv] ∧ Sl M w' kv t.kids ∧ Low M w' ∧ Below w.heap.size w w' ∧ w.heap.size ≤ w'.heap.size) (fun i => t.kids.length - i) (0) (s3 rfl rfl rfl) ?_ ?_
    · exact ⟨Nat.zero_le _, fun j x d hj => absurd hj (Nat.not_lt_zero _), h1, hk, hlow, hE, hB⟩
    rintro i w33 ⟨hi, hall, h1, hk, hlow, hE, hB⟩
    refine c_seq (q0 (l_p 4 tbOk rfl (q1 ?_)))
    refine c_ifP _ rfl (fun c46 => ?_) (fun c46 => ?_)
    · refine c_skip (x_seq (c_seq (c_blk (c_seq ?_))))
      refine a_beg Ext rfl ?_
      intro w34 ew34
      replace hE := hE.trans (Below.mono ew34 hB)
      replace h1 := h1.ext ew34
      replace hk := hk.ext ew34
      replace hlow := hlow.ext ew34
      replace hB := Nat.le_trans hB ew34.size
      have hS : Ext w34 w34 := ext_refl _
      have D_h1 := h1
      have D_hk := hk
      refine a_p 0 tbOk rfl rfl rfl rfl (by kernel_rfl) (fun _ _ _ h => h) hS ?_
      refine a_ld 1 tbOk (fun _ hs => (D_h1.ext hs).cell 3 _ rfl) rfl rfl rfl rfl rfl rfl (by kernel_rfl) (fun _ _ _ h => h) hS ?_
      refine a_p 2 tbOk rfl rfl rfl rfl (by kernel_rfl) (fun _ _ _ h => h) hS ?_
      have hik : i < t.kids.length := by omega
      have hd : ks.data[i]? = some (ks.data[i]'(by have := size_data ks; omega)) := Array.getElem?_eq_getElem _
      generalize hcc : (ks.data[i]'(by have := size_data ks; omega)) = dd at hd
      refine a_ixS 3 tbOk D_hk (List.getElem?_eq_getElem hik) rfl rfl rfl rfl rfl rfl rfl rfl rfl rfl (by kernel_rfl) (fun _ _ _ _ h => h) hS ?_
      intro ebx eox eux hyx hatx
      obtain ⟨kvx, rfl, opx, nmx, n64x, hkx⟩ := ty_open hyx
      replace hatx : At M w34 ebx eox [.int .u8 t.kids[i].op, .string t.kids[i].name, .int .i64 t.kids[i].n, kvx] := hatx
      refine a_lds 4 tbOk (fun _ hs j v hv => (hatx.ext hs).cell j v hv) rfl rfl rfl rfl rfl rfl rfl (by kernel_rfl) (fun _ _ _ h => h) hS ?_
      refine a_p 5 tbOk rfl rfl rfl rfl (by kernel_rfl) (fun _ _ _ h => h) hS ?_
      refine a_p 6 tbOk rfl rfl rfl rfl (by kernel_rfl) (fun _ _ _ h => h) hS ?_
      refine a_si 7 tbOk hd rfl rfl rfl rfl rfl rfl rfl rfl (by kernel_rfl) (fun _ _ _ h => h) hS ?_
      refine a_bar 8 rfl (by kernel_rfl) (by kernel_rfl) (o_call fo60 rfl rfl rfl (ih _ (List.getElem_mem hik) dd _ _ _ hyx hlow) ?_)
      rintro _ w35 ⟨rfl, ew35⟩
      replace hS := hS.then ew35
      replace hE := hE.trans (Below.mono ew35 hB)
      replace h1 := h1.ext ew35
      replace hk := hk.ext ew35
      replace hyx := Rep.ext hyx ew35
      replace hkx := hkx.ext ew35
      replace hatx := hatx.ext ew35
      replace hlow := hlow.ext ew35
      replace hB := Nat.le_trans hB ew35.size
      refine a_p 9 tbOk rfl rfl rfl rfl (by kernel_rfl) (fun _ _ _ h => h) hS ?_
      refine a_end (by kernel_rfl) ?_
      refine x_seq ?_
      refine c_ifB _ rfl (fun c47 => ?_) (fun c47 => ?_)
      · refine q0 (l_p 1 tbOk rfl (q1 (c_ret (x_blkR (x_seqR (x_seqR (x_blkR (x_seqR (x_ret1 rfl rfl ?_)))))))))
        exact ⟨by rw [shape_kid hko hik hd c47], hE⟩
      refine c_skip (x_blk (x_seq (c_reg (l_p 1 tbOk rfl ?_))))
      refine l_cons (o_ar rfl rfl rfl (IntWalk.i64_in _ (by omega)) rfl rfl ?_)
      refine l_p 1 tbOk rfl (l_nil ?_)
      exact x_round (i + 1) (s3 rfl rfl rfl) ⟨by omega, kid_step hik hd hall c47, h1, hk, hlow, hE, hB⟩ (by omega)
    refine c_exit (x_seqE (x_seqE (x_blkE (x_seq (q0 (l_p 1 tbOk rfl (q1 (c_ret (x_ret1 rfl rfl ?_)))))))))
    exact ⟨by rw [shape_yes hko hll hsort hhead (fun j x d hx hd => hall j x d (by have := (List.getElem?_eq_some_iff.1 hx).1; omega) hx hd)], hE⟩
  refine l_p 10 tbOk rfl (q1 (c_ifF rfl (c_skip (x_seq (c_seq (q0 (l_p 1 tbOk rfl (q1 (c_blk ?_)))))))))
  obtain rfl : bk = true := by simpa using c1
  replace hko : kidsOf t.op = some ks := hko
  have hll : t.kids.length = ks.size := by omega
  have hsort : (decide (8 ≤ t.op) == decide ((c.toNat : Int) = 114)) = true := by simpa using c2
  have hhead : headOk t.op t.name t.n = true := by unfold headOk; simp_all <;> omega
  refine c_loop (X := Nat) (fun i => [(2, .pointer (some ⟨b1, 0, none⟩)), (5, .string ks), (7, .int .i64 (i : Nat))]) (fun i w' => i ≤ t.kids.length ∧ (∀ (j : Nat) x d, j < i → t.kids[j]? = some x → ks.data[j]? = some d → shapeF x d = true) ∧ At M w' b1 0 [.int .u8 t.op, .string t.name, .int .i64 t.n, kv] ∧ Sl M w' kv t.kids ∧ Low M w' ∧ Below w.heap.size w w' ∧ w.heap.size ≤ w'.heap.size) (fun i => t.kids.length - i) (0) (s3 rfl rfl rfl) ?_ ?_
  · exact ⟨Nat.zero_le _, fun j x d hj => absurd hj (Nat.not_lt_zero _), h1, hk, hlow, hE, hB⟩
  rintro i w36 ⟨hi, hall, h1, hk, hlow, hE, hB⟩
  refine c_seq (q0 (l_p 4 tbOk rfl (q1 ?_)))
  refine c_ifP _ rfl (fun c48 => ?_) (fun c48 => ?_)
  · refine c_skip (x_seq (c_seq (c_blk (c_seq ?_))))
    refine a_beg Ext rfl ?_
    intro w37 ew37
    replace hE := hE.trans (Below.mono ew37 hB)
    replace h1 := h1.ext ew37
    replace hk := hk.ext ew37
    replace hlow := hlow.ext ew37
    replace hB := Nat.le_trans hB ew37.size
    have hS : Ext w37 w37 := ext_refl _
    have D_h1 := h1
    have D_hk := hk
    refine a_p 0 tbOk rfl rfl rfl rfl (by kernel_rfl) (fun _ _ _ h => h) hS ?_
    refine a_ld 1 tbOk (fun _ hs => (D_h1.ext hs).cell 3 _ rfl) rfl rfl rfl rfl rfl rfl (by kernel_rfl) (fun _ _ _ h => h) hS ?_
    refine a_p 2 tbOk rfl rfl rfl rfl (by kernel_rfl) (fun _ _ _ h => h) hS ?_
    have hik : i < t.kids.length := by omega
    have hd : ks.data[i]? = some (ks.data[i]'(by have := size_data ks; omega)) := Array.getElem?_eq_getElem _
    generalize hcc : (ks.data[i]'(by have := size_data ks; omega)) = dd at hd
    refine a_ixS 3 tbOk D_hk (List.getElem?_eq_getElem hik) rfl rfl rfl rfl rfl rfl rfl rfl rfl rfl (by kernel_rfl) (fun _ _ _ _ h => h) hS ?_
    intro ebx eox eux hyx hatx
    obtain ⟨kvx, rfl, opx, nmx, n64x, hkx⟩ := ty_open hyx
    replace hatx : At M w37 ebx eox [.int .u8 t.kids[i].op, .string t.kids[i].name, .int .i64 t.kids[i].n, kvx] := hatx
    refine a_lds 4 tbOk (fun _ hs j v hv => (hatx.ext hs).cell j v hv) rfl rfl rfl rfl rfl rfl rfl (by kernel_rfl) (fun _ _ _ h => h) hS ?_
    refine a_p 5 tbOk rfl rfl rfl rfl (by kernel_rfl) (fun _ _ _ h => h) hS ?_
    refine a_p 6 tbOk rfl rfl rfl rfl (by kernel_rfl) (fun _ _ _ h => h) hS ?_
    refine a_si 7 tbOk hd rfl rfl rfl rfl rfl rfl rfl rfl (by kernel_rfl) (fun _ _ _ h => h) hS ?_
    refine a_bar 8 rfl (by kernel_rfl) (by kernel_rfl) (o_call fo60 rfl rfl rfl (ih _ (List.getElem_mem hik) dd _ _ _ hyx hlow) ?_)
    rintro _ w38 ⟨rfl, ew38⟩
    replace hS := hS.then ew38
    replace hE := hE.trans (Below.mono ew38 hB)
    replace h1 := h1.ext ew38
    replace hk := hk.ext ew38
    replace hyx := Rep.ext hyx ew38
    replace hkx := hkx.ext ew38
    replace hatx := hatx.ext ew38
    replace hlow := hlow.ext ew38
    replace hB := Nat.le_trans hB ew38.size
    refine a_p 9 tbOk rfl rfl rfl rfl (by kernel_rfl) (fun _ _ _ h => h) hS ?_
    refine a_end (by kernel_rfl) ?_
    refine x_seq ?_
    refine c_ifB _ rfl (fun c49 => ?_) (fun c49 => ?_)
    · refine q0 (l_p 1 tbOk rfl (q1 (c_ret (x_blkR (x_seqR (x_seqR (x_blkR (x_seqR (x_ret1 rfl rfl ?_)))))))))
      exact ⟨by rw [shape_kid hko hik hd c49], hE⟩
    refine c_skip (x_blk (x_seq (c_reg (l_p 1 tbOk rfl ?_))))
    refine l_cons (o_ar rfl rfl rfl (IntWalk.i64_in _ (by omega)) rfl rfl ?_)
    refine l_p 1 tbOk rfl (l_nil ?_)
    exact x_round (i + 1) (s3 rfl rfl rfl) ⟨by omega, kid_step hik hd hall c49, h1, hk, hlow, hE, hB⟩ (by omega)
  refine c_exit (x_seqE (x_seqE (x_blkE (x_seq (q0 (l_p 1 tbOk rfl (q1 (c_ret (x_ret1 rfl rfl ?_)))))))))
  exact ⟨by rw [shape_yes hko hll hsort hhead (fun j x d hx hd => hall j x d (by have := (List.getElem?_eq_some_iff.1 hx).1; omega) hx hd)], hE⟩

end Go.Proofs.Ytohfnpmehgpphaa
