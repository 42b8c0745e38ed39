/- Part 6 of the proof: rules, plain laws and walks, merged out of smaller texts. -/
import Derived.Test.YtohfnpmehgpphaaV5
namespace Go.Proofs.Ytohfnpmehgpphaa
open Go Rw Go.RowKit
set_option maxRecDepth 100000
theorem hasR_spec (s : ByteArray) (hs : s.size < 140737488355328) (c : UInt8) (w : World) :
  Calls Try.prog 107 #[.string s, .int .u8 c.toNat] w (Ret fun r w' => r = .bool (hasB s c) ∧ w = w') := by
 refine c_enter (n := 17) Try.func107 rfl rfl rfl ?_
 refine q0 (l_p 1 tK rfl (q1 (c_seq (q0 (l_p 1 tK rfl (q1 (c_blk ?_)))))))
 refine c_loop (X := Nat) (fun i => [(0, .string s), (1, .int .u8 c.toNat), (5, .int .i64 (i : Nat))]) (fun i w' => w = w' ∧ i ≤ s.size ∧ ∀ j, j < i → s.data[j]? ≠ some c) (fun i => s.size - i) (0) (s3 rfl rfl rfl) ?_ ?_
 ·exact ⟨rfl, Nat.zero_le _, fun j hj => absurd hj (Nat.not_lt_zero _)⟩
 rintro i _ ⟨rfl, hi, hall⟩
 refine c_seq (q0 (l_p 4 tK rfl (q1 ?_)))
 refine c_ifP _ rfl (fun c1 => ?_) (fun c1 => ?_)
 ·refine c_skip (x_seq (c_seq (c_blk (q0 (l_p 2 tK rfl ?_)))))
  have his : i < s.size := by omega
  have hd : s.data[i]? = some s.data[i] := Array.getElem?_eq_getElem his
  generalize hcc : s.data[i] = ch at hd
  refine lC (o_si tK rfl rfl rfl rfl rfl hd rfl rfl ?_)
  refine l_p 2 tK rfl (q1 ?_)
  refine c_ifP _ rfl (fun c2 => ?_) (fun c2 => ?_)
  ·refine q0 (l_p 1 tK rfl (q1 (c_ret (x_blkR (x_seqR (x_seqR (x_blkR (x_seqR (x_ret1 rfl rfl ?_)))))))))
   exact ⟨by rw [hasB_yes (c := c) (by rw [hd]; congr 1; exact UInt8.toNat_inj.1 (by omega))], rfl⟩
  refine c_skip (x_blk (x_seq (c_reg (l_p 1 tK rfl ?_))))
  refine lC (o_ai rfl rfl rfl (by omega) rfl rfl ?_)
  refine l_p 1 tK rfl (l_nil ?_)
  exact x_round (i + 1) (s3 rfl rfl rfl) ⟨rfl, by omega, fun j hj e => by
   by_cases he : j = i
   ·subst he; rw [hd] at e; cases e; omega
   ·exact hall j (by omega) e⟩ (by omega)
 refine c_exit (x_seqE (x_seqE (x_blkE (x_seq (q0 (l_p 1 tK rfl (q1 (c_ret (x_ret1 rfl rfl ?_)))))))))
 exact ⟨by rw [hasB_no (fun j hj => hall j (by omega))], rfl⟩
theorem hasC_spec (s : ByteArray) (hs : s.size < 140737488355328) (c : UInt8) (w : World) :
  Calls Try.prog 86 #[.string s, .int .u8 c.toNat] w (Ret fun r w' => r = .bool (hasB s c) ∧ w = w') := by
 refine c_enter (n := 17) Try.func86 rfl rfl rfl ?_
 refine q0 (l_p 1 tK rfl (q1 (c_seq (q0 (l_p 1 tK rfl (q1 (c_blk ?_)))))))
 refine c_loop (X := Nat) (fun i => [(0, .string s), (1, .int .u8 c.toNat), (5, .int .i64 (i : Nat))]) (fun i w' => w = w' ∧ i ≤ s.size ∧ ∀ j, j < i → s.data[j]? ≠ some c) (fun i => s.size - i) (0) (s3 rfl rfl rfl) ?_ ?_
 ·exact ⟨rfl, Nat.zero_le _, fun j hj => absurd hj (Nat.not_lt_zero _)⟩
 rintro i _ ⟨rfl, hi, hall⟩
 refine c_seq (q0 (l_p 4 tK rfl (q1 ?_)))
 refine c_ifP _ rfl (fun c1 => ?_) (fun c1 => ?_)
 ·refine c_skip (x_seq (c_seq (c_blk (q0 (l_p 2 tK rfl ?_)))))
  have his : i < s.size := by omega
  have hd : s.data[i]? = some s.data[i] := Array.getElem?_eq_getElem his
  generalize hcc : s.data[i] = ch at hd
  refine lC (o_si tK rfl rfl rfl rfl rfl hd rfl rfl ?_)
  refine l_p 2 tK rfl (q1 ?_)
  refine c_ifP _ rfl (fun c2 => ?_) (fun c2 => ?_)
  ·refine q0 (l_p 1 tK rfl (q1 (c_ret (x_blkR (x_seqR (x_seqR (x_blkR (x_seqR (x_ret1 rfl rfl ?_)))))))))
   exact ⟨by rw [hasB_yes (c := c) (by rw [hd]; congr 1; exact UInt8.toNat_inj.1 (by omega))], rfl⟩
  refine c_skip (x_blk (x_seq (c_reg (l_p 1 tK rfl ?_))))
  refine lC (o_ai rfl rfl rfl (by omega) rfl rfl ?_)
  refine l_p 1 tK rfl (l_nil ?_)
  exact x_round (i + 1) (s3 rfl rfl rfl) ⟨rfl, by omega, fun j hj e => by
   by_cases he : j = i
   ·subst he; rw [hd] at e; cases e; omega
   ·exact hall j (by omega) e⟩ (by omega)
 refine c_exit (x_seqE (x_seqE (x_blkE (x_seq (q0 (l_p 1 tK rfl (q1 (c_ret (x_ret1 rfl rfl ?_)))))))))
 exact ⟨by rw [hasB_no (fun j hj => hall j (by omega))], rfl⟩
theorem partsS_spec (op : Int) (hop : 0 ≤ op ∧ op ≤ 255) (M : Nat → Prop) (w : World) (hlow : Low M w) :
  Calls Try.prog 84 #[.int .u8 op] w (Ret fun r w' => r = .string (partsS op) ∧ Ext w w') := by
 have hE : Below w.heap.size w w := Below.refl _ _
 have hB : w.heap.size ≤ w.heap.size := Nat.le_refl _
 have hpl : partsT.length = 20 := rfl
 refine c_enter (n := 20) Try.func84 rfl rfl rfl ?_
 refine q0 (l_p 1 tK rfl (q1 (q0 ?_)))
 refine lC (o_bs tK rfl rfl rfl rfl rfl rfl rfl (by intro v hv; simp at hv; rcases hv with rfl | rfl | rfl | rfl | rfl | rfl | rfl | rfl | rfl | rfl | rfl | rfl | rfl | rfl | rfl | rfl | rfl | rfl | rfl | rfl <;> rfl) rfl rfl rfl ?_)
 intro bw1 w1 qbw1 ew1 hbw1
 have nbw1 := nM_of hlow qbw1
 replace hE := ew1.bl hE hB
 replace hlow := hlow.ext ew1
 replace hB := ew1.z hB
 have hl : Sl M w1 (.slice (some ⟨bw1, 0, none⟩) 20 20) partsT := lit_sl hbw1 nbw1 (show Rs _ _ [_, _, _, _, _, _, _, _, _, _, _, _, _, _, _, _, _, _, _, _] partsT from ⟨⟨rfl, by decide⟩, ⟨rfl, by decide⟩, ⟨rfl, by decide⟩, ⟨rfl, by decide⟩, ⟨rfl, by decide⟩, ⟨rfl, by decide⟩, ⟨rfl, by decide⟩, ⟨rfl, by decide⟩, ⟨rfl, by decide⟩, ⟨rfl, by decide⟩, ⟨rfl, by decide⟩, ⟨rfl, by decide⟩, ⟨rfl, by decide⟩, ⟨rfl, by decide⟩, ⟨rfl, by decide⟩, ⟨rfl, by decide⟩, ⟨rfl, by decide⟩, ⟨rfl, by decide⟩, ⟨rfl, by decide⟩, ⟨rfl, by decide⟩, trivial⟩) (by decide)
 refine l_p 1 tK rfl (q1 (c_seq (q0 (l_p 3 tK rfl ?_))))
 refine l_splitP 7 _ rfl (fun c1 => ?_) (fun c1 => ?_)
 ·refine l_p 7 tK rfl (q1 (c_ifT rfl (q0 (l_p 1 tK rfl (q1 (c_ret (x_seqR (x_ret1 rfl rfl ?_))))))))
  exact ⟨by unfold partsS; rw [if_pos (by omega)], hE⟩
 refine l_p 1 tK rfl ?_
 refine lC (o_conv (y := op) tK rfl rfl rfl rfl rfl (IntWalk.i64_in _ (by omega)) rfl rfl ?_)
 refine l_p 1 tK rfl ?_
 refine lC (o_len tK hl rfl rfl rfl rfl rfl ?_)
 refine lC (o_ai rfl rfl rfl (by omega) rfl rfl ?_)
 refine l_p 2 tK rfl (q1 ?_)
 refine c_ifP _ rfl (fun c2 => ?_) (fun c2 => ?_)
 ·refine q0 (l_p 1 tK rfl (q1 (c_ret (x_seqR (x_ret1 rfl rfl ?_)))))
  exact ⟨by unfold partsS; rw [if_pos (by omega)], hE⟩
 refine c_skip (x_seq (q0 (l_p 2 tK rfl ?_)))
 refine lC (o_ar rfl rfl rfl (z := op - 32) (by rw [IntKind.wrap_u8]; omega) rfl rfl ?_)
 have hlen : (op - 32).toNat < partsT.length := by show _ < 20; omega
 refine lC (o_ixS tK hl (List.getElem?_eq_getElem hlen) rfl rfl (by omega) rfl rfl rfl rfl rfl rfl ?_)
 intro b o u hr hat
 obtain ⟨rfl, _⟩ := hr
 refine lC (o_ld tK (hat.cell 0 _ rfl) rfl rfl rfl rfl rfl ?_)
 refine l_p 1 tK rfl (q1 (c_ret (x_ret1 rfl rfl ?_)))
 exact ⟨by unfold partsS; rw [if_neg (by omega), List.getElem?_eq_getElem hlen, Option.getD_some], hE⟩
theorem zero_spec (t : Ty) (M : Nat → Prop) (w : World) (v : Value) (ht : Rep.R M w v t) (hlow : Low M w) :
  Calls Try.prog 108 #[v] w (Ret fun r w' => r = .bool (blankB t) ∧ Ext w w') := by
 have hE : Below w.heap.size w w := Below.refl _ _
 have hB : w.heap.size ≤ w.heap.size := Nat.le_refl _
 obtain ⟨kv, rfl, op, nm, n64, hk⟩ := ty_open ht
 refine c_enter (n := 22) Try.func108 rfl rfl rfl ?_
 refine q0 ?_
 refine lC (o_box rfl rfl rfl ?_)
 intro b1 w1 hb_b1 ew1 h1
 replace h1 : Box _ b1 40 [.int .u8 t.op, .string t.name, .int .i64 t.n, kv] := h1
 replace h1 := h1.at (nM_of hlow hb_b1)
 replace hE := ew1.bl hE hB
 replace ht := Rep.ext ht ew1
 replace hk := hk.ext ew1
 replace hlow := hlow.ext ew1
 replace hB := ew1.z hB
 refine l_p 1 tK rfl (q1 (q0 (l_p 1 tK rfl ?_)))
 refine lC (o_ld tK (h1.cell 0 _ rfl) rfl rfl rfl rfl rfl ?_)
 refine l_p 2 tK rfl ?_
 refine l_splitP 6 _ rfl (fun c1 => ?_) (fun c1 => ?_)
 ·refine l_p 1 tK rfl ?_
  refine lC (o_ld tK (h1.cell 1 _ rfl) rfl rfl rfl rfl rfl ?_)
  refine l_p 3 tK rfl ?_
  refine l_splitP 11 _ rfl (fun c2 => ?_) (fun c2 => ?_)
  ·refine l_p 1 tK rfl ?_
   refine lC (o_ld tK (h1.cell 2 _ rfl) rfl rfl rfl rfl rfl ?_)
   refine l_p 3 tK rfl ?_
   refine l_splitP 16 _ rfl (fun c3 => ?_) (fun c3 => ?_)
   ·refine l_p 1 tK rfl ?_
    refine lC (o_ld tK (h1.cell 3 _ rfl) rfl rfl rfl rfl rfl ?_)
    refine lC (o_len tK hk rfl rfl rfl rfl rfl ?_)
    refine l_p 3 tK rfl (q1 (c_ret (x_ret1 rfl rfl ?_)))
    exact ⟨by congr 1; unfold blankB; simp_all, hE⟩
   refine l_p 6 tK rfl (q1 (c_ret (x_ret1 rfl rfl ?_)))
   exact ⟨by congr 1; unfold blankB; simp_all, hE⟩
  refine l_p 11 tK rfl (q1 (c_ret (x_ret1 rfl rfl ?_)))
  exact ⟨by congr 1; unfold blankB; simp_all, hE⟩
 refine l_p 16 tK rfl (q1 (c_ret (x_ret1 rfl rfl ?_)))
 exact ⟨by congr 1; unfold blankB; simp_all, hE⟩
theorem partsR_spec (t : Tm) (p : ByteArray) (hp : p.size < 140737488355328) (M : Nat → Prop) (w : World) (v : Value) (ht : Rep.R M w v t) (hlow : Low M w) (hz : psz t.ann ≤ 2000000) :
  Calls Try.prog 85 #[v, .string p] w (Ret fun r w' => r = .bool (partsB t p) ∧ Ext w w') := by
 have hE : Below w.heap.size w w := Below.refl _ _
 have hB : w.heap.size ≤ w.heap.size := Nat.le_refl _
 obtain ⟨akv, kv, rfl, op, nm, ag, n64, ha, hk⟩ := tm_open ht
 refine c_enter (n := 135) Try.func85 rfl rfl rfl ?_
 refine q0 ?_
 refine lC (o_box rfl rfl rfl ?_)
 intro b2 w1 hb_b2 ew1 h2
 replace h2 : Box _ b2 84 [.int .u8 t.op, .string t.name, .string t.arg, .int .i64 t.n, .bool t.has, .int .u8 t.ann.op, .string t.ann.name, .int .i64 t.ann.n, akv, kv] := h2
 replace h2 := h2.at (nM_of hlow hb_b2)
 replace hE := ew1.bl hE hB
 replace ht := Rep.ext ht ew1
 replace ha := Rep.ext ha ew1
 replace hk := hk.ext ew1
 replace hlow := hlow.ext ew1
 replace hB := ew1.z hB
 refine l_p 1 tK rfl (q1 ?_)
 refine c_cut (X := Unit) (fun _u => [(1, .string p), (2, .pointer (some ⟨b2, 0, none⟩))]) (fun _u w' => (hasB p 111 == signB t.name) = true ∧ At M w' b2 0 [.int .u8 t.op, .string t.name, .string t.arg, .int .i64 t.n, .bool t.has, .int .u8 t.ann.op, .string t.ann.name, .int .i64 t.ann.n, akv, kv] ∧ Rep.R M w' (.agg #[.int .u8 t.ann.op, .string t.ann.name, .int .i64 t.ann.n, akv]) t.ann ∧ Low M w' ∧ Below w.heap.size w w' ∧ w.heap.size ≤ w'.heap.size) ?_ ?_
 ·refine c_seq ?_
  refine a_beg Ext rfl ?_
  intro w2 ew2
  replace hE := ew2.bl hE hB
  replace ht := Rep.ext ht ew2
  replace ha := Rep.ext ha ew2
  replace hk := hk.ext ew2
  replace h2 := h2.ext ew2
  replace hlow := hlow.ext ew2
  replace hB := ew2.z hB
  have hS : Ext w2 w2 := ext_refl _
  have D_hk := hk
  have D_h2 := h2
  refine a_p 0 tK rfl rfl rfl rfl (by kernel_rfl) (fun _ _ _ h => h) hS ?_
  refine a_p 2 tK rfl rfl rfl rfl (by kernel_rfl) (fun _ _ _ h => h) hS ?_
  refine a_ld 3 tK (fun _ hs => (D_h2.ext hs).cell 1 _ rfl) rfl rfl rfl rfl rfl rfl (by kernel_rfl) (fun _ _ _ h => h) hS ?_
  refine a_p 4 tK rfl rfl rfl rfl (by kernel_rfl) (fun _ _ _ h => h) hS ?_
  refine a_one 1 rfl (by kernel_rfl) (o_call fo107 rfl rfl rfl (hasR_spec p hp 111 _) ?_)
  rintro _ _ ⟨rfl, rfl⟩
  refine ⟨hS, ?_⟩
  refine a_p 5 tK rfl rfl rfl rfl (by kernel_rfl) (fun _ _ _ h => h) hS ?_
  refine a_splitP 10 _ rfl (fun c1 => ?_) (fun c1 => ?_)
  ·refine a_skip 6 rfl rfl rfl (by kernel_rfl) (fun _ _ _ h => h) hS ?_
   refine a_skip 7 rfl rfl rfl (by kernel_rfl) (fun _ _ _ h => h) hS ?_
   refine a_skip 8 rfl rfl rfl (by kernel_rfl) (fun _ _ _ h => h) hS ?_
   refine a_p 9 tK rfl rfl rfl rfl (by kernel_rfl) (fun _ _ _ h => h) hS ?_
   refine a_p 10 tK rfl rfl rfl rfl (by kernel_rfl) (fun _ _ _ h => h) hS ?_
   refine a_skip 11 rfl rfl rfl (by kernel_rfl) (fun _ _ _ h => h) hS ?_
   refine a_skip 12 rfl rfl rfl (by kernel_rfl) (fun _ _ _ h => h) hS ?_
   refine a_skip 13 rfl rfl rfl (by kernel_rfl) (fun _ _ _ h => h) hS ?_
   refine a_p 14 tK rfl rfl rfl rfl (by kernel_rfl) (fun _ _ _ h => h) hS ?_
   refine a_p 15 tK rfl rfl rfl rfl (by kernel_rfl) (fun _ _ _ h => h) hS ?_
   refine a_skip 16 rfl rfl rfl (by kernel_rfl) (fun _ _ _ h => h) hS ?_
   refine a_skip 17 rfl rfl rfl (by kernel_rfl) (fun _ _ _ h => h) hS ?_
   refine a_skip 18 rfl rfl rfl (by kernel_rfl) (fun _ _ _ h => h) hS ?_
   refine a_p 19 tK rfl rfl rfl rfl (by kernel_rfl) (fun _ _ _ h => h) hS ?_
   refine a_p 20 tK rfl rfl rfl rfl (by kernel_rfl) (fun _ _ _ h => h) hS ?_
   refine a_skip 21 rfl rfl rfl (by kernel_rfl) (fun _ _ _ h => h) hS ?_
   refine a_skip 22 rfl rfl rfl (by kernel_rfl) (fun _ _ _ h => h) hS ?_
   refine a_skip 23 rfl rfl rfl (by kernel_rfl) (fun _ _ _ h => h) hS ?_
   refine a_p 24 tK rfl rfl rfl rfl (by kernel_rfl) (fun _ _ _ h => h) hS ?_
   refine a_p 25 tK rfl rfl rfl rfl (by kernel_rfl) (fun _ _ _ h => h) hS ?_
   refine a_skip 26 rfl rfl rfl (by kernel_rfl) (fun _ _ _ h => h) hS ?_
   refine a_skip 27 rfl rfl rfl (by kernel_rfl) (fun _ _ _ h => h) hS ?_
   refine a_skip 28 rfl rfl rfl (by kernel_rfl) (fun _ _ _ h => h) hS ?_
   refine a_p 29 tK rfl rfl rfl rfl (by kernel_rfl) (fun _ _ _ h => h) hS ?_
   refine a_p 30 tK rfl rfl rfl rfl (by kernel_rfl) (fun _ _ _ h => h) hS ?_
   refine a_skip 31 rfl rfl rfl (by kernel_rfl) (fun _ _ _ h => h) hS ?_
   refine a_skip 32 rfl rfl rfl (by kernel_rfl) (fun _ _ _ h => h) hS ?_
   refine a_skip 33 rfl rfl rfl (by kernel_rfl) (fun _ _ _ h => h) hS ?_
   refine a_p 34 tK rfl rfl rfl rfl (by kernel_rfl) (fun _ _ _ h => h) hS ?_
   refine a_bar 35 rfl (by kernel_rfl) (by kernel_rfl) (o_bne tK rfl rfl rfl rfl rfl rfl ?_)
   refine a_end (by kernel_rfl) ?_
   refine x_seq ?_
   refine c_if _ rfl (fun c2 => ?_) (fun c2 => ?_)
   ·refine q0 (l_p 1 tK rfl (q1 (c_ret (x_seqR (x_ret1 rfl rfl ?_)))))
    refine ⟨?_, hE⟩
    have hA : ((hasB p 111 == signB t.name)) = false := by
     simp_all [signB]
    unfold partsB
    rw [hA]
    simp
   refine c_skip ?_
   have hA : (hasB p 111 == signB t.name) = true := by
    simp_all [signB]
   exact x_cut (()) (s2 rfl rfl) ⟨hA, h2, ha, hlow, hE, hB⟩
  refine a_p 6 tK rfl rfl rfl rfl (by kernel_rfl) (fun _ _ _ h => h) hS ?_
  refine a_ld 7 tK (fun _ hs => (D_h2.ext hs).cell 1 _ rfl) rfl rfl rfl rfl rfl rfl (by kernel_rfl) (fun _ _ _ h => h) hS ?_
  refine a_p 8 tK rfl rfl rfl rfl (by kernel_rfl) (fun _ _ _ h => h) hS ?_
  refine a_p 9 tK rfl rfl rfl rfl (by kernel_rfl) (fun _ _ _ h => h) hS ?_
  refine a_p 10 tK rfl rfl rfl rfl (by kernel_rfl) (fun _ _ _ h => h) hS ?_
  refine a_splitP 15 _ rfl (fun c3 => ?_) (fun c3 => ?_)
  ·refine a_skip 11 rfl rfl rfl (by kernel_rfl) (fun _ _ _ h => h) hS ?_
   refine a_skip 12 rfl rfl rfl (by kernel_rfl) (fun _ _ _ h => h) hS ?_
   refine a_skip 13 rfl rfl rfl (by kernel_rfl) (fun _ _ _ h => h) hS ?_
   refine a_p 14 tK rfl rfl rfl rfl (by kernel_rfl) (fun _ _ _ h => h) hS ?_
   refine a_p 15 tK rfl rfl rfl rfl (by kernel_rfl) (fun _ _ _ h => h) hS ?_
   refine a_skip 16 rfl rfl rfl (by kernel_rfl) (fun _ _ _ h => h) hS ?_
   refine a_skip 17 rfl rfl rfl (by kernel_rfl) (fun _ _ _ h => h) hS ?_
   refine a_skip 18 rfl rfl rfl (by kernel_rfl) (fun _ _ _ h => h) hS ?_
   refine a_p 19 tK rfl rfl rfl rfl (by kernel_rfl) (fun _ _ _ h => h) hS ?_
   refine a_p 20 tK rfl rfl rfl rfl (by kernel_rfl) (fun _ _ _ h => h) hS ?_
   refine a_skip 21 rfl rfl rfl (by kernel_rfl) (fun _ _ _ h => h) hS ?_
   refine a_skip 22 rfl rfl rfl (by kernel_rfl) (fun _ _ _ h => h) hS ?_
   refine a_skip 23 rfl rfl rfl (by kernel_rfl) (fun _ _ _ h => h) hS ?_
   refine a_p 24 tK rfl rfl rfl rfl (by kernel_rfl) (fun _ _ _ h => h) hS ?_
   refine a_p 25 tK rfl rfl rfl rfl (by kernel_rfl) (fun _ _ _ h => h) hS ?_
   refine a_skip 26 rfl rfl rfl (by kernel_rfl) (fun _ _ _ h => h) hS ?_
   refine a_skip 27 rfl rfl rfl (by kernel_rfl) (fun _ _ _ h => h) hS ?_
   refine a_skip 28 rfl rfl rfl (by kernel_rfl) (fun _ _ _ h => h) hS ?_
   refine a_p 29 tK rfl rfl rfl rfl (by kernel_rfl) (fun _ _ _ h => h) hS ?_
   refine a_p 30 tK rfl rfl rfl rfl (by kernel_rfl) (fun _ _ _ h => h) hS ?_
   refine a_skip 31 rfl rfl rfl (by kernel_rfl) (fun _ _ _ h => h) hS ?_
   refine a_skip 32 rfl rfl rfl (by kernel_rfl) (fun _ _ _ h => h) hS ?_
   refine a_skip 33 rfl rfl rfl (by kernel_rfl) (fun _ _ _ h => h) hS ?_
   refine a_p 34 tK rfl rfl rfl rfl (by kernel_rfl) (fun _ _ _ h => h) hS ?_
   refine a_bar 35 rfl (by kernel_rfl) (by kernel_rfl) (o_bne tK rfl rfl rfl rfl rfl rfl ?_)
   refine a_end (by kernel_rfl) ?_
   refine x_seq ?_
   refine c_if _ rfl (fun c4 => ?_) (fun c4 => ?_)
   ·refine q0 (l_p 1 tK rfl (q1 (c_ret (x_seqR (x_ret1 rfl rfl ?_)))))
    refine ⟨?_, hE⟩
    have hA : ((hasB p 111 == signB t.name)) = false := by
     simp_all [signB]
    unfold partsB
    rw [hA]
    simp
   refine c_skip ?_
   have hA : (hasB p 111 == signB t.name) = true := by
    simp_all [signB]
   exact x_cut (()) (s2 rfl rfl) ⟨hA, h2, ha, hlow, hE, hB⟩
  refine a_p 11 tK rfl rfl rfl rfl (by kernel_rfl) (fun _ _ _ h => h) hS ?_
  refine a_ld 12 tK (fun _ hs => (D_h2.ext hs).cell 1 _ rfl) rfl rfl rfl rfl rfl rfl (by kernel_rfl) (fun _ _ _ h => h) hS ?_
  refine a_p 13 tK rfl rfl rfl rfl (by kernel_rfl) (fun _ _ _ h => h) hS ?_
  refine a_p 14 tK rfl rfl rfl rfl (by kernel_rfl) (fun _ _ _ h => h) hS ?_
  refine a_p 15 tK rfl rfl rfl rfl (by kernel_rfl) (fun _ _ _ h => h) hS ?_
  refine a_splitP 20 _ rfl (fun c5 => ?_) (fun c5 => ?_)
  ·refine a_skip 16 rfl rfl rfl (by kernel_rfl) (fun _ _ _ h => h) hS ?_
   refine a_skip 17 rfl rfl rfl (by kernel_rfl) (fun _ _ _ h => h) hS ?_
   refine a_skip 18 rfl rfl rfl (by kernel_rfl) (fun _ _ _ h => h) hS ?_
   refine a_p 19 tK rfl rfl rfl rfl (by kernel_rfl) (fun _ _ _ h => h) hS ?_
   refine a_p 20 tK rfl rfl rfl rfl (by kernel_rfl) (fun _ _ _ h => h) hS ?_
   refine a_skip 21 rfl rfl rfl (by kernel_rfl) (fun _ _ _ h => h) hS ?_
   refine a_skip 22 rfl rfl rfl (by kernel_rfl) (fun _ _ _ h => h) hS ?_
   refine a_skip 23 rfl rfl rfl (by kernel_rfl) (fun _ _ _ h => h) hS ?_
   refine a_p 24 tK rfl rfl rfl rfl (by kernel_rfl) (fun _ _ _ h => h) hS ?_
   refine a_p 25 tK rfl rfl rfl rfl (by kernel_rfl) (fun _ _ _ h => h) hS ?_
   refine a_skip 26 rfl rfl rfl (by kernel_rfl) (fun _ _ _ h => h) hS ?_
   refine a_skip 27 rfl rfl rfl (by kernel_rfl) (fun _ _ _ h => h) hS ?_
   refine a_skip 28 rfl rfl rfl (by kernel_rfl) (fun _ _ _ h => h) hS ?_
   refine a_p 29 tK rfl rfl rfl rfl (by kernel_rfl) (fun _ _ _ h => h) hS ?_
   refine a_p 30 tK rfl rfl rfl rfl (by kernel_rfl) (fun _ _ _ h => h) hS ?_
   refine a_skip 31 rfl rfl rfl (by kernel_rfl) (fun _ _ _ h => h) hS ?_
   refine a_skip 32 rfl rfl rfl (by kernel_rfl) (fun _ _ _ h => h) hS ?_
   refine a_skip 33 rfl rfl rfl (by kernel_rfl) (fun _ _ _ h => h) hS ?_
   refine a_p 34 tK rfl rfl rfl rfl (by kernel_rfl) (fun _ _ _ h => h) hS ?_
   refine a_bar 35 rfl (by kernel_rfl) (by kernel_rfl) (o_bne tK rfl rfl rfl rfl rfl rfl ?_)
   refine a_end (by kernel_rfl) ?_
   refine x_seq ?_
   refine c_if _ rfl (fun c6 => ?_) (fun c6 => ?_)
   ·refine q0 (l_p 1 tK rfl (q1 (c_ret (x_seqR (x_ret1 rfl rfl ?_)))))
    refine ⟨?_, hE⟩
    have hA : ((hasB p 111 == signB t.name)) = false := by
     simp_all [signB]
    unfold partsB
    rw [hA]
    simp
   refine c_skip ?_
   have hA : (hasB p 111 == signB t.name) = true := by
    simp_all [signB]
   exact x_cut (()) (s2 rfl rfl) ⟨hA, h2, ha, hlow, hE, hB⟩
  refine a_p 16 tK rfl rfl rfl rfl (by kernel_rfl) (fun _ _ _ h => h) hS ?_
  refine a_ld 17 tK (fun _ hs => (D_h2.ext hs).cell 1 _ rfl) rfl rfl rfl rfl rfl rfl (by kernel_rfl) (fun _ _ _ h => h) hS ?_
  refine a_p 18 tK rfl rfl rfl rfl (by kernel_rfl) (fun _ _ _ h => h) hS ?_
  refine a_p 19 tK rfl rfl rfl rfl (by kernel_rfl) (fun _ _ _ h => h) hS ?_
  refine a_p 20 tK rfl rfl rfl rfl (by kernel_rfl) (fun _ _ _ h => h) hS ?_
  refine a_splitP 25 _ rfl (fun c7 => ?_) (fun c7 => ?_)
  ·refine a_skip 21 rfl rfl rfl (by kernel_rfl) (fun _ _ _ h => h) hS ?_
   refine a_skip 22 rfl rfl rfl (by kernel_rfl) (fun _ _ _ h => h) hS ?_
   refine a_skip 23 rfl rfl rfl (by kernel_rfl) (fun _ _ _ h => h) hS ?_
   refine a_p 24 tK rfl rfl rfl rfl (by kernel_rfl) (fun _ _ _ h => h) hS ?_
   refine a_p 25 tK rfl rfl rfl rfl (by kernel_rfl) (fun _ _ _ h => h) hS ?_
   refine a_skip 26 rfl rfl rfl (by kernel_rfl) (fun _ _ _ h => h) hS ?_
   refine a_skip 27 rfl rfl rfl (by kernel_rfl) (fun _ _ _ h => h) hS ?_
   refine a_skip 28 rfl rfl rfl (by kernel_rfl) (fun _ _ _ h => h) hS ?_
   refine a_p 29 tK rfl rfl rfl rfl (by kernel_rfl) (fun _ _ _ h => h) hS ?_
   refine a_p 30 tK rfl rfl rfl rfl (by kernel_rfl) (fun _ _ _ h => h) hS ?_
   refine a_skip 31 rfl rfl rfl (by kernel_rfl) (fun _ _ _ h => h) hS ?_
   refine a_skip 32 rfl rfl rfl (by kernel_rfl) (fun _ _ _ h => h) hS ?_
   refine a_skip 33 rfl rfl rfl (by kernel_rfl) (fun _ _ _ h => h) hS ?_
   refine a_p 34 tK rfl rfl rfl rfl (by kernel_rfl) (fun _ _ _ h => h) hS ?_
   refine a_bar 35 rfl (by kernel_rfl) (by kernel_rfl) (o_bne tK rfl rfl rfl rfl rfl rfl ?_)
   refine a_end (by kernel_rfl) ?_
   refine x_seq ?_
   refine c_if _ rfl (fun c8 => ?_) (fun c8 => ?_)
   ·refine q0 (l_p 1 tK rfl (q1 (c_ret (x_seqR (x_ret1 rfl rfl ?_)))))
    refine ⟨?_, hE⟩
    have hA : ((hasB p 111 == signB t.name)) = false := by
     simp_all [signB]
    unfold partsB
    rw [hA]
    simp
   refine c_skip ?_
   have hA : (hasB p 111 == signB t.name) = true := by
    simp_all [signB]
   exact x_cut (()) (s2 rfl rfl) ⟨hA, h2, ha, hlow, hE, hB⟩
  refine a_p 21 tK rfl rfl rfl rfl (by kernel_rfl) (fun _ _ _ h => h) hS ?_
  refine a_ld 22 tK (fun _ hs => (D_h2.ext hs).cell 1 _ rfl) rfl rfl rfl rfl rfl rfl (by kernel_rfl) (fun _ _ _ h => h) hS ?_
  refine a_p 23 tK rfl rfl rfl rfl (by kernel_rfl) (fun _ _ _ h => h) hS ?_
  refine a_p 24 tK rfl rfl rfl rfl (by kernel_rfl) (fun _ _ _ h => h) hS ?_
  refine a_p 25 tK rfl rfl rfl rfl (by kernel_rfl) (fun _ _ _ h => h) hS ?_
  refine a_splitP 30 _ rfl (fun c9 => ?_) (fun c9 => ?_)
  ·refine a_skip 26 rfl rfl rfl (by kernel_rfl) (fun _ _ _ h => h) hS ?_
   refine a_skip 27 rfl rfl rfl (by kernel_rfl) (fun _ _ _ h => h) hS ?_
   refine a_skip 28 rfl rfl rfl (by kernel_rfl) (fun _ _ _ h => h) hS ?_
   refine a_p 29 tK rfl rfl rfl rfl (by kernel_rfl) (fun _ _ _ h => h) hS ?_
   refine a_p 30 tK rfl rfl rfl rfl (by kernel_rfl) (fun _ _ _ h => h) hS ?_
   refine a_skip 31 rfl rfl rfl (by kernel_rfl) (fun _ _ _ h => h) hS ?_
   refine a_skip 32 rfl rfl rfl (by kernel_rfl) (fun _ _ _ h => h) hS ?_
   refine a_skip 33 rfl rfl rfl (by kernel_rfl) (fun _ _ _ h => h) hS ?_
   refine a_p 34 tK rfl rfl rfl rfl (by kernel_rfl) (fun _ _ _ h => h) hS ?_
   refine a_bar 35 rfl (by kernel_rfl) (by kernel_rfl) (o_bne tK rfl rfl rfl rfl rfl rfl ?_)
   refine a_end (by kernel_rfl) ?_
   refine x_seq ?_
   refine c_if _ rfl (fun c10 => ?_) (fun c10 => ?_)
   ·refine q0 (l_p 1 tK rfl (q1 (c_ret (x_seqR (x_ret1 rfl rfl ?_)))))
    refine ⟨?_, hE⟩
    have hA : ((hasB p 111 == signB t.name)) = false := by
     simp_all [signB]
    unfold partsB
    rw [hA]
    simp
   refine c_skip ?_
   have hA : (hasB p 111 == signB t.name) = true := by
    simp_all [signB]
   exact x_cut (()) (s2 rfl rfl) ⟨hA, h2, ha, hlow, hE, hB⟩
  refine a_p 26 tK rfl rfl rfl rfl (by kernel_rfl) (fun _ _ _ h => h) hS ?_
  refine a_ld 27 tK (fun _ hs => (D_h2.ext hs).cell 1 _ rfl) rfl rfl rfl rfl rfl rfl (by kernel_rfl) (fun _ _ _ h => h) hS ?_
  refine a_p 28 tK rfl rfl rfl rfl (by kernel_rfl) (fun _ _ _ h => h) hS ?_
  refine a_p 29 tK rfl rfl rfl rfl (by kernel_rfl) (fun _ _ _ h => h) hS ?_
  refine a_p 30 tK rfl rfl rfl rfl (by kernel_rfl) (fun _ _ _ h => h) hS ?_
  refine a_splitP 35 _ rfl (fun c11 => ?_) (fun c11 => ?_)
  ·refine a_skip 31 rfl rfl rfl (by kernel_rfl) (fun _ _ _ h => h) hS ?_
   refine a_skip 32 rfl rfl rfl (by kernel_rfl) (fun _ _ _ h => h) hS ?_
   refine a_skip 33 rfl rfl rfl (by kernel_rfl) (fun _ _ _ h => h) hS ?_
   refine a_p 34 tK rfl rfl rfl rfl (by kernel_rfl) (fun _ _ _ h => h) hS ?_
   refine a_bar 35 rfl (by kernel_rfl) (by kernel_rfl) (o_bne tK rfl rfl rfl rfl rfl rfl ?_)
   refine a_end (by kernel_rfl) ?_
   refine x_seq ?_
   refine c_if _ rfl (fun c12 => ?_) (fun c12 => ?_)
   ·refine q0 (l_p 1 tK rfl (q1 (c_ret (x_seqR (x_ret1 rfl rfl ?_)))))
    refine ⟨?_, hE⟩
    have hA : ((hasB p 111 == signB t.name)) = false := by
     simp_all [signB]
    unfold partsB
    rw [hA]
    simp
   refine c_skip ?_
   have hA : (hasB p 111 == signB t.name) = true := by
    simp_all [signB]
   exact x_cut (()) (s2 rfl rfl) ⟨hA, h2, ha, hlow, hE, hB⟩
  refine a_p 31 tK rfl rfl rfl rfl (by kernel_rfl) (fun _ _ _ h => h) hS ?_
  refine a_ld 32 tK (fun _ hs => (D_h2.ext hs).cell 1 _ rfl) rfl rfl rfl rfl rfl rfl (by kernel_rfl) (fun _ _ _ h => h) hS ?_
  refine a_p 33 tK rfl rfl rfl rfl (by kernel_rfl) (fun _ _ _ h => h) hS ?_
  refine a_p 34 tK rfl rfl rfl rfl (by kernel_rfl) (fun _ _ _ h => h) hS ?_
  refine a_bar 35 rfl (by kernel_rfl) (by kernel_rfl) (o_bne tK rfl rfl rfl rfl rfl rfl ?_)
  refine a_end (by kernel_rfl) ?_
  refine x_seq ?_
  refine c_if _ rfl (fun c13 => ?_) (fun c13 => ?_)
  ·refine q0 (l_p 1 tK rfl (q1 (c_ret (x_seqR (x_ret1 rfl rfl ?_)))))
   refine ⟨?_, hE⟩
   have hA : ((hasB p 111 == signB t.name)) = false := by
    simp_all [signB]
   unfold partsB
   rw [hA]
   simp
  refine c_skip ?_
  have hA : (hasB p 111 == signB t.name) = true := by
   simp_all [signB]
  exact x_cut (()) (s2 rfl rfl) ⟨hA, h2, ha, hlow, hE, hB⟩
 clear h2 ha hlow hE hB ht hk
 rintro _ w81 ⟨hA1, h2, ha, hlow, hE, hB⟩
 refine c_cut (X := Unit) (fun _u => [(1, .string p), (2, .pointer (some ⟨b2, 0, none⟩))]) (fun _u w' => (hasB p 111 || ((hasB p 110 == isWordB t.name) && (hasB p 110 || decide (t.name = ⟨#[]⟩)))) = true ∧ At M w' b2 0 [.int .u8 t.op, .string t.name, .string t.arg, .int .i64 t.n, .bool t.has, .int .u8 t.ann.op, .string t.ann.name, .int .i64 t.ann.n, akv, kv] ∧ Rep.R M w' (.agg #[.int .u8 t.ann.op, .string t.ann.name, .int .i64 t.ann.n, akv]) t.ann ∧ Low M w' ∧ Below w.heap.size w w' ∧ w.heap.size ≤ w'.heap.size) ?_ ?_
 ·refine c_seq ?_
  refine a_beg Ext rfl ?_
  intro w3 ew3
  replace hE := ew3.bl hE hB
  replace h2 := h2.ext ew3
  replace ha := Rep.ext ha ew3
  replace hlow := hlow.ext ew3
  replace hB := ew3.z hB
  have hS : Ext w3 w3 := ext_refl _
  have D_h2 := h2
  refine a_p 0 tK rfl rfl rfl rfl (by kernel_rfl) (fun _ _ _ h => h) hS ?_
  refine a_bar 1 rfl (by kernel_rfl) (by kernel_rfl) (o_call fo107 rfl rfl rfl (hasR_spec p hp 111 _) ?_)
  rintro _ _ ⟨rfl, rfl⟩
  refine a_p 2 tK rfl rfl rfl rfl (by kernel_rfl) (fun _ _ _ h => h) hS ?_
  refine a_p 3 tK rfl rfl rfl rfl (by kernel_rfl) (fun _ _ _ h => h) hS ?_
  refine a_splitB 44 _ rfl (fun c14 => ?_) (fun c14 => ?_)
  ·refine a_p 4 tK rfl rfl rfl rfl (by kernel_rfl) (fun _ _ _ h => h) hS ?_
   refine a_p 6 tK rfl rfl rfl rfl (by kernel_rfl) (fun _ _ _ h => h) hS ?_
   refine a_ld 7 tK (fun _ hs => (D_h2.ext hs).cell 1 _ rfl) rfl rfl rfl rfl rfl rfl (by kernel_rfl) (fun _ _ _ h => h) hS ?_
   refine a_one 5 rfl (by kernel_rfl) (o_call fo107 rfl rfl rfl (hasR_spec p hp 110 _) ?_)
   rintro _ _ ⟨rfl, rfl⟩
   refine ⟨hS, ?_⟩
   refine a_bar 8 rfl (by kernel_rfl) (by kernel_rfl) (o_call fo23 rfl rfl rfl (risWord_spec M _ _ (by first | exact nm | exact ag) hlow) ?_)
   rintro _ w4 ⟨rfl, ew4⟩
   replace hS := hS.then ew4
   replace hE := ew4.bl hE hB
   replace h2 := h2.ext ew4
   replace ha := Rep.ext ha ew4
   replace hlow := hlow.ext ew4
   replace hB := ew4.z hB
   refine a_bar 9 rfl (by kernel_rfl) (by kernel_rfl) (o_bne tK rfl rfl rfl rfl rfl rfl ?_)
   refine a_p 10 tK rfl rfl rfl rfl (by kernel_rfl) (fun _ _ _ h => h) hS ?_
   refine a_p 11 tK rfl rfl rfl rfl (by kernel_rfl) (fun _ _ _ h => h) hS ?_
   refine a_split 52 _ rfl (fun c15 => ?_) (fun c15 => ?_)
   ·refine a_skip 12 rfl rfl rfl (by kernel_rfl) (fun _ _ _ h => h) hS ?_
    refine a_skip 13 rfl rfl rfl (by kernel_rfl) (fun _ _ _ h => h) hS ?_
    refine a_skip 14 rfl rfl rfl (by kernel_rfl) (fun _ _ _ h => h) hS ?_
    refine a_skip 15 rfl rfl rfl (by kernel_rfl) (fun _ _ _ h => h) hS ?_
    refine a_skip 16 rfl rfl rfl (by kernel_rfl) (fun _ _ _ h => h) hS ?_
    refine a_skip 17 rfl rfl rfl (by kernel_rfl) (fun _ _ _ h => h) hS ?_
    refine a_skip 18 rfl rfl rfl (by kernel_rfl) (fun _ _ _ h => h) hS ?_
    refine a_skip 19 rfl rfl rfl (by kernel_rfl) (fun _ _ _ h => h) hS ?_
    refine a_skip 20 rfl rfl rfl (by kernel_rfl) (fun _ _ _ h => h) hS ?_
    refine a_skip 21 rfl rfl rfl (by kernel_rfl) (fun _ _ _ h => h) hS ?_
    refine a_skip 22 rfl rfl rfl (by kernel_rfl) (fun _ _ _ h => h) hS ?_
    refine a_skip 23 rfl rfl rfl (by kernel_rfl) (fun _ _ _ h => h) hS ?_
    refine a_skip 24 rfl rfl rfl (by kernel_rfl) (fun _ _ _ h => h) hS ?_
    refine a_p 25 tK rfl rfl rfl rfl (by kernel_rfl) (fun _ _ _ h => h) hS ?_
    refine a_end (by kernel_rfl) ?_
    refine x_seq (c_ifT rfl (q0 (l_p 1 tK rfl (q1 (c_ret (x_seqR (x_ret1 rfl rfl ?_)))))))
    refine ⟨?_, hE⟩
    have hA : ((hasB p 111 || ((hasB p 110 == isWordB t.name) && (hasB p 110 || decide (t.name = ⟨#[]⟩))))) = false := by
     simp_all
    unfold partsB
    rw [hA1, hA]
    simp
   refine a_p 12 tK rfl rfl rfl rfl (by kernel_rfl) (fun _ _ _ h => h) hS ?_
   refine a_bar 13 rfl (by kernel_rfl) (by kernel_rfl) (o_call fo107 rfl rfl rfl (hasR_spec p hp 111 _) ?_)
   rintro _ _ ⟨rfl, rfl⟩
   refine a_p 14 tK rfl rfl rfl rfl (by kernel_rfl) (fun _ _ _ h => h) hS ?_
   refine a_p 15 tK rfl rfl rfl rfl (by kernel_rfl) (fun _ _ _ h => h) hS ?_
   refine a_splitB 56 _ rfl (fun c16 => ?_) (fun c16 => ?_)
   ·refine a_p 16 tK rfl rfl rfl rfl (by kernel_rfl) (fun _ _ _ h => h) hS ?_
    refine a_bar 17 rfl (by kernel_rfl) (by kernel_rfl) (o_call fo107 rfl rfl rfl (hasR_spec p hp 110 _) ?_)
    rintro _ _ ⟨rfl, rfl⟩
    refine a_p 18 tK rfl rfl rfl rfl (by kernel_rfl) (fun _ _ _ h => h) hS ?_
    refine a_p 19 tK rfl rfl rfl rfl (by kernel_rfl) (fun _ _ _ h => h) hS ?_
    refine a_p 20 tK rfl rfl rfl rfl (by kernel_rfl) (fun _ _ _ h => h) hS ?_
    refine a_splitB 61 _ rfl (fun c17 => ?_) (fun c17 => ?_)
    ·refine a_p 21 tK rfl rfl rfl rfl (by kernel_rfl) (fun _ _ _ h => h) hS ?_
     refine a_ld 22 tK (fun _ hs => (D_h2.ext hs).cell 1 _ rfl) rfl rfl rfl rfl rfl rfl (by kernel_rfl) (fun _ _ _ h => h) hS ?_
     refine a_p 23 tK rfl rfl rfl rfl (by kernel_rfl) (fun _ _ _ h => h) hS ?_
     refine a_p 24 tK rfl rfl rfl rfl (by kernel_rfl) (fun _ _ _ h => h) hS ?_
     refine a_p 25 tK rfl rfl rfl rfl (by kernel_rfl) (fun _ _ _ h => h) hS ?_
     refine a_end (by kernel_rfl) ?_
     refine x_seq ?_
     refine c_ifN _ rfl (fun c18 => ?_) (fun c18 => ?_)
     ·refine q0 (l_p 1 tK rfl (q1 (c_ret (x_seqR (x_ret1 rfl rfl ?_)))))
      refine ⟨?_, hE⟩
      have hA : ((hasB p 111 || ((hasB p 110 == isWordB t.name) && (hasB p 110 || decide (t.name = ⟨#[]⟩))))) = false := by
       simp_all
      unfold partsB
      rw [hA1, hA]
      simp
     refine c_skip ?_
     have hA : (hasB p 111 || ((hasB p 110 == isWordB t.name) && (hasB p 110 || decide (t.name = ⟨#[]⟩)))) = true := by
      simp_all
     exact x_cut (()) (s2 rfl rfl) ⟨hA, h2, ha, hlow, hE, hB⟩
    refine a_skip 21 rfl rfl rfl (by kernel_rfl) (fun _ _ _ h => h) hS ?_
    refine a_skip 22 rfl rfl rfl (by kernel_rfl) (fun _ _ _ h => h) hS ?_
    refine a_skip 23 rfl rfl rfl (by kernel_rfl) (fun _ _ _ h => h) hS ?_
    refine a_p 24 tK rfl rfl rfl rfl (by kernel_rfl) (fun _ _ _ h => h) hS ?_
    refine a_p 25 tK rfl rfl rfl rfl (by kernel_rfl) (fun _ _ _ h => h) hS ?_
    refine a_end (by kernel_rfl) ?_
    refine x_seq (c_ifF rfl (c_skip ?_))
    have hA : (hasB p 111 || ((hasB p 110 == isWordB t.name) && (hasB p 110 || decide (t.name = ⟨#[]⟩)))) = true := by
     simp_all
    exact x_cut (()) (s2 rfl rfl) ⟨hA, h2, ha, hlow, hE, hB⟩
   refine a_skip 16 rfl rfl rfl (by kernel_rfl) (fun _ _ _ h => h) hS ?_
   refine a_skip 17 rfl rfl rfl (by kernel_rfl) (fun _ _ _ h => h) hS ?_
   refine a_skip 18 rfl rfl rfl (by kernel_rfl) (fun _ _ _ h => h) hS ?_
   refine a_p 19 tK rfl rfl rfl rfl (by kernel_rfl) (fun _ _ _ h => h) hS ?_
   refine a_p 20 tK rfl rfl rfl rfl (by kernel_rfl) (fun _ _ _ h => h) hS ?_
   refine a_skip 21 rfl rfl rfl (by kernel_rfl) (fun _ _ _ h => h) hS ?_
   refine a_skip 22 rfl rfl rfl (by kernel_rfl) (fun _ _ _ h => h) hS ?_
   refine a_skip 23 rfl rfl rfl (by kernel_rfl) (fun _ _ _ h => h) hS ?_
   refine a_p 24 tK rfl rfl rfl rfl (by kernel_rfl) (fun _ _ _ h => h) hS ?_
   refine a_p 25 tK rfl rfl rfl rfl (by kernel_rfl) (fun _ _ _ h => h) hS ?_
   refine a_end (by kernel_rfl) ?_
   refine x_seq (c_ifF rfl (c_skip ?_))
   have hA : (hasB p 111 || ((hasB p 110 == isWordB t.name) && (hasB p 110 || decide (t.name = ⟨#[]⟩)))) = true := by
    simp_all
   exact x_cut (()) (s2 rfl rfl) ⟨hA, h2, ha, hlow, hE, hB⟩
  refine a_skip 4 rfl rfl rfl (by kernel_rfl) (fun _ _ _ h => h) hS ?_
  refine a_skip 5 rfl rfl rfl (by kernel_rfl) (fun _ _ _ h => h) hS ?_
  refine a_skip 6 rfl rfl rfl (by kernel_rfl) (fun _ _ _ h => h) hS ?_
  refine a_skip 7 rfl rfl rfl (by kernel_rfl) (fun _ _ _ h => h) hS ?_
  refine a_skip 8 rfl rfl rfl (by kernel_rfl) (fun _ _ _ h => h) hS ?_
  refine a_skip 9 rfl rfl rfl (by kernel_rfl) (fun _ _ _ h => h) hS ?_
  refine a_p 10 tK rfl rfl rfl rfl (by kernel_rfl) (fun _ _ _ h => h) hS ?_
  refine a_p 11 tK rfl rfl rfl rfl (by kernel_rfl) (fun _ _ _ h => h) hS ?_
  refine a_p 12 tK rfl rfl rfl rfl (by kernel_rfl) (fun _ _ _ h => h) hS ?_
  refine a_bar 13 rfl (by kernel_rfl) (by kernel_rfl) (o_call fo107 rfl rfl rfl (hasR_spec p hp 111 _) ?_)
  rintro _ _ ⟨rfl, rfl⟩
  refine a_p 14 tK rfl rfl rfl rfl (by kernel_rfl) (fun _ _ _ h => h) hS ?_
  refine a_p 15 tK rfl rfl rfl rfl (by kernel_rfl) (fun _ _ _ h => h) hS ?_
  refine a_splitB 56 _ rfl (fun c19 => ?_) (fun c19 => ?_)
  ·refine a_p 16 tK rfl rfl rfl rfl (by kernel_rfl) (fun _ _ _ h => h) hS ?_
   refine a_bar 17 rfl (by kernel_rfl) (by kernel_rfl) (o_call fo107 rfl rfl rfl (hasR_spec p hp 110 _) ?_)
   rintro _ _ ⟨rfl, rfl⟩
   refine a_p 18 tK rfl rfl rfl rfl (by kernel_rfl) (fun _ _ _ h => h) hS ?_
   refine a_p 19 tK rfl rfl rfl rfl (by kernel_rfl) (fun _ _ _ h => h) hS ?_
   refine a_p 20 tK rfl rfl rfl rfl (by kernel_rfl) (fun _ _ _ h => h) hS ?_
   refine a_splitB 61 _ rfl (fun c20 => ?_) (fun c20 => ?_)
   ·refine a_p 21 tK rfl rfl rfl rfl (by kernel_rfl) (fun _ _ _ h => h) hS ?_
    refine a_ld 22 tK (fun _ hs => (D_h2.ext hs).cell 1 _ rfl) rfl rfl rfl rfl rfl rfl (by kernel_rfl) (fun _ _ _ h => h) hS ?_
    refine a_p 23 tK rfl rfl rfl rfl (by kernel_rfl) (fun _ _ _ h => h) hS ?_
    refine a_p 24 tK rfl rfl rfl rfl (by kernel_rfl) (fun _ _ _ h => h) hS ?_
    refine a_p 25 tK rfl rfl rfl rfl (by kernel_rfl) (fun _ _ _ h => h) hS ?_
    refine a_end (by kernel_rfl) ?_
    refine x_seq ?_
    refine c_ifN _ rfl (fun c21 => ?_) (fun c21 => ?_)
    ·refine q0 (l_p 1 tK rfl (q1 (c_ret (x_seqR (x_ret1 rfl rfl ?_)))))
     refine ⟨?_, hE⟩
     have hA : ((hasB p 111 || ((hasB p 110 == isWordB t.name) && (hasB p 110 || decide (t.name = ⟨#[]⟩))))) = false := by
      simp_all
     unfold partsB
     rw [hA1, hA]
     simp
    refine c_skip ?_
    have hA : (hasB p 111 || ((hasB p 110 == isWordB t.name) && (hasB p 110 || decide (t.name = ⟨#[]⟩)))) = true := by
     simp_all
    exact x_cut (()) (s2 rfl rfl) ⟨hA, h2, ha, hlow, hE, hB⟩
   refine a_skip 21 rfl rfl rfl (by kernel_rfl) (fun _ _ _ h => h) hS ?_
   refine a_skip 22 rfl rfl rfl (by kernel_rfl) (fun _ _ _ h => h) hS ?_
   refine a_skip 23 rfl rfl rfl (by kernel_rfl) (fun _ _ _ h => h) hS ?_
   refine a_p 24 tK rfl rfl rfl rfl (by kernel_rfl) (fun _ _ _ h => h) hS ?_
   refine a_p 25 tK rfl rfl rfl rfl (by kernel_rfl) (fun _ _ _ h => h) hS ?_
   refine a_end (by kernel_rfl) ?_
   refine x_seq (c_ifF rfl (c_skip ?_))
   have hA : (hasB p 111 || ((hasB p 110 == isWordB t.name) && (hasB p 110 || decide (t.name = ⟨#[]⟩)))) = true := by
    simp_all
   exact x_cut (()) (s2 rfl rfl) ⟨hA, h2, ha, hlow, hE, hB⟩
  refine a_skip 16 rfl rfl rfl (by kernel_rfl) (fun _ _ _ h => h) hS ?_
  refine a_skip 17 rfl rfl rfl (by kernel_rfl) (fun _ _ _ h => h) hS ?_
  refine a_skip 18 rfl rfl rfl (by kernel_rfl) (fun _ _ _ h => h) hS ?_
  refine a_p 19 tK rfl rfl rfl rfl (by kernel_rfl) (fun _ _ _ h => h) hS ?_
  refine a_p 20 tK rfl rfl rfl rfl (by kernel_rfl) (fun _ _ _ h => h) hS ?_
  refine a_skip 21 rfl rfl rfl (by kernel_rfl) (fun _ _ _ h => h) hS ?_
  refine a_skip 22 rfl rfl rfl (by kernel_rfl) (fun _ _ _ h => h) hS ?_
  refine a_skip 23 rfl rfl rfl (by kernel_rfl) (fun _ _ _ h => h) hS ?_
  refine a_p 24 tK rfl rfl rfl rfl (by kernel_rfl) (fun _ _ _ h => h) hS ?_
  refine a_p 25 tK rfl rfl rfl rfl (by kernel_rfl) (fun _ _ _ h => h) hS ?_
  refine a_end (by kernel_rfl) ?_
  refine x_seq (c_ifF rfl (c_skip ?_))
  have hA : (hasB p 111 || ((hasB p 110 == isWordB t.name) && (hasB p 110 || decide (t.name = ⟨#[]⟩)))) = true := by
   simp_all
  exact x_cut (()) (s2 rfl rfl) ⟨hA, h2, ha, hlow, hE, hB⟩
 clear h2 ha hlow hE hB
 rintro _ w82 ⟨hA2, h2, ha, hlow, hE, hB⟩
 refine c_cut (X := Unit) (fun _u => [(1, .string p), (2, .pointer (some ⟨b2, 0, none⟩))]) (fun _u w' => ((hasB p 97 == isWordB t.arg) && (hasB p 97 || decide (t.arg = ⟨#[]⟩))) = true ∧ At M w' b2 0 [.int .u8 t.op, .string t.name, .string t.arg, .int .i64 t.n, .bool t.has, .int .u8 t.ann.op, .string t.ann.name, .int .i64 t.ann.n, akv, kv] ∧ Rep.R M w' (.agg #[.int .u8 t.ann.op, .string t.ann.name, .int .i64 t.ann.n, akv]) t.ann ∧ Low M w' ∧ Below w.heap.size w w' ∧ w.heap.size ≤ w'.heap.size) ?_ ?_
 ·refine c_seq ?_
  refine a_beg Ext rfl ?_
  intro w5 ew5
  replace hE := ew5.bl hE hB
  replace h2 := h2.ext ew5
  replace ha := Rep.ext ha ew5
  replace hlow := hlow.ext ew5
  replace hB := ew5.z hB
  have hS : Ext w5 w5 := ext_refl _
  have D_h2 := h2
  refine a_p 0 tK rfl rfl rfl rfl (by kernel_rfl) (fun _ _ _ h => h) hS ?_
  refine a_p 2 tK rfl rfl rfl rfl (by kernel_rfl) (fun _ _ _ h => h) hS ?_
  refine a_ld 3 tK (fun _ hs => (D_h2.ext hs).cell 2 _ rfl) rfl rfl rfl rfl rfl rfl (by kernel_rfl) (fun _ _ _ h => h) hS ?_
  refine a_one 1 rfl (by kernel_rfl) (o_call fo107 rfl rfl rfl (hasR_spec p hp 97 _) ?_)
  rintro _ _ ⟨rfl, rfl⟩
  refine ⟨hS, ?_⟩
  refine a_bar 4 rfl (by kernel_rfl) (by kernel_rfl) (o_call fo23 rfl rfl rfl (risWord_spec M _ _ (by first | exact nm | exact ag) hlow) ?_)
  rintro _ w6 ⟨rfl, ew6⟩
  replace hS := hS.then ew6
  replace hE := ew6.bl hE hB
  replace h2 := h2.ext ew6
  replace ha := Rep.ext ha ew6
  replace hlow := hlow.ext ew6
  replace hB := ew6.z hB
  refine a_bar 5 rfl (by kernel_rfl) (by kernel_rfl) (o_bne tK rfl rfl rfl rfl rfl rfl ?_)
  refine a_p 6 tK rfl rfl rfl rfl (by kernel_rfl) (fun _ _ _ h => h) hS ?_
  refine a_split 73 _ rfl (fun c22 => ?_) (fun c22 => ?_)
  ·refine a_skip 7 rfl rfl rfl (by kernel_rfl) (fun _ _ _ h => h) hS ?_
   refine a_skip 8 rfl rfl rfl (by kernel_rfl) (fun _ _ _ h => h) hS ?_
   refine a_skip 9 rfl rfl rfl (by kernel_rfl) (fun _ _ _ h => h) hS ?_
   refine a_skip 10 rfl rfl rfl (by kernel_rfl) (fun _ _ _ h => h) hS ?_
   refine a_skip 11 rfl rfl rfl (by kernel_rfl) (fun _ _ _ h => h) hS ?_
   refine a_skip 12 rfl rfl rfl (by kernel_rfl) (fun _ _ _ h => h) hS ?_
   refine a_skip 13 rfl rfl rfl (by kernel_rfl) (fun _ _ _ h => h) hS ?_
   refine a_skip 14 rfl rfl rfl (by kernel_rfl) (fun _ _ _ h => h) hS ?_
   refine a_p 15 tK rfl rfl rfl rfl (by kernel_rfl) (fun _ _ _ h => h) hS ?_
   refine a_end (by kernel_rfl) ?_
   refine x_seq (c_ifT rfl (q0 (l_p 1 tK rfl (q1 (c_ret (x_seqR (x_ret1 rfl rfl ?_)))))))
   refine ⟨?_, hE⟩
   have hA : (((hasB p 97 == isWordB t.arg) && (hasB p 97 || decide (t.arg = ⟨#[]⟩)))) = false := by
    simp_all
   unfold partsB
   rw [hA1, hA2, hA]
   simp
  refine a_p 7 tK rfl rfl rfl rfl (by kernel_rfl) (fun _ _ _ h => h) hS ?_
  refine a_bar 8 rfl (by kernel_rfl) (by kernel_rfl) (o_call fo107 rfl rfl rfl (hasR_spec p hp 97 _) ?_)
  rintro _ _ ⟨rfl, rfl⟩
  refine a_p 9 tK rfl rfl rfl rfl (by kernel_rfl) (fun _ _ _ h => h) hS ?_
  refine a_p 10 tK rfl rfl rfl rfl (by kernel_rfl) (fun _ _ _ h => h) hS ?_
  refine a_splitB 77 _ rfl (fun c23 => ?_) (fun c23 => ?_)
  ·refine a_p 11 tK rfl rfl rfl rfl (by kernel_rfl) (fun _ _ _ h => h) hS ?_
   refine a_ld 12 tK (fun _ hs => (D_h2.ext hs).cell 2 _ rfl) rfl rfl rfl rfl rfl rfl (by kernel_rfl) (fun _ _ _ h => h) hS ?_
   refine a_p 13 tK rfl rfl rfl rfl (by kernel_rfl) (fun _ _ _ h => h) hS ?_
   refine a_p 14 tK rfl rfl rfl rfl (by kernel_rfl) (fun _ _ _ h => h) hS ?_
   refine a_p 15 tK rfl rfl rfl rfl (by kernel_rfl) (fun _ _ _ h => h) hS ?_
   refine a_end (by kernel_rfl) ?_
   refine x_seq ?_
   refine c_ifN _ rfl (fun c24 => ?_) (fun c24 => ?_)
   ·refine q0 (l_p 1 tK rfl (q1 (c_ret (x_seqR (x_ret1 rfl rfl ?_)))))
    refine ⟨?_, hE⟩
    have hA : (((hasB p 97 == isWordB t.arg) && (hasB p 97 || decide (t.arg = ⟨#[]⟩)))) = false := by
     simp_all
    unfold partsB
    rw [hA1, hA2, hA]
    simp
   refine c_skip ?_
   have hA : ((hasB p 97 == isWordB t.arg) && (hasB p 97 || decide (t.arg = ⟨#[]⟩))) = true := by
    simp_all
   exact x_cut (()) (s2 rfl rfl) ⟨hA, h2, ha, hlow, hE, hB⟩
  refine a_skip 11 rfl rfl rfl (by kernel_rfl) (fun _ _ _ h => h) hS ?_
  refine a_skip 12 rfl rfl rfl (by kernel_rfl) (fun _ _ _ h => h) hS ?_
  refine a_skip 13 rfl rfl rfl (by kernel_rfl) (fun _ _ _ h => h) hS ?_
  refine a_p 14 tK rfl rfl rfl rfl (by kernel_rfl) (fun _ _ _ h => h) hS ?_
  refine a_p 15 tK rfl rfl rfl rfl (by kernel_rfl) (fun _ _ _ h => h) hS ?_
  refine a_end (by kernel_rfl) ?_
  refine x_seq (c_ifF rfl (c_skip ?_))
  have hA : ((hasB p 97 == isWordB t.arg) && (hasB p 97 || decide (t.arg = ⟨#[]⟩))) = true := by
   simp_all
  exact x_cut (()) (s2 rfl rfl) ⟨hA, h2, ha, hlow, hE, hB⟩
 clear h2 ha hlow hE hB
 rintro _ w83 ⟨hA3, h2, ha, hlow, hE, hB⟩
 refine c_cut (X := Unit) (fun _u => [(1, .string p), (2, .pointer (some ⟨b2, 0, none⟩))]) (fun _u w' => (decide (0 ≤ t.n) && (!decide (0 < t.n) || (hasB p 105 || (hasB p 98 && decide (t.n = 1))))) = true ∧ At M w' b2 0 [.int .u8 t.op, .string t.name, .string t.arg, .int .i64 t.n, .bool t.has, .int .u8 t.ann.op, .string t.ann.name, .int .i64 t.ann.n, akv, kv] ∧ Rep.R M w' (.agg #[.int .u8 t.ann.op, .string t.ann.name, .int .i64 t.ann.n, akv]) t.ann ∧ Low M w' ∧ Below w.heap.size w w' ∧ w.heap.size ≤ w'.heap.size) ?_ ?_
 ·refine q0 (l_p 1 tK rfl ?_)
  refine lC (o_ld tK (h2.cell 3 _ rfl) rfl rfl rfl rfl rfl ?_)
  refine l_p 2 tK rfl ?_
  refine l_splitP 86 _ rfl (fun c25 => ?_) (fun c25 => ?_)
  ·refine l_p 19 tK rfl (q1 (c_ifT rfl (q0 (l_p 1 tK rfl (q1 (c_ret (x_seqR (x_ret1 rfl rfl ?_))))))))
   refine ⟨?_, hE⟩
   have hA : ((decide (0 ≤ t.n) && (!decide (0 < t.n) || (hasB p 105 || (hasB p 98 && decide (t.n = 1)))))) = false := by
    simp_all <;> omega
   unfold partsB
   rw [hA1, hA2, hA3, hA]
   simp
  refine l_p 1 tK rfl ?_
  refine lC (o_ld tK (h2.cell 3 _ rfl) rfl rfl rfl rfl rfl ?_)
  refine l_p 2 tK rfl ?_
  refine l_splitP 90 _ rfl (fun c26 => ?_) (fun c26 => ?_)
  ·refine l_p 1 tK rfl ?_
   refine lC (o_call fo107 rfl rfl rfl (hasR_spec p hp 105 _) ?_)
   rintro _ _ ⟨rfl, rfl⟩
   refine l_p 3 tK rfl ?_
   refine l_splitB 95 _ rfl (fun c27 => ?_) (fun c27 => ?_)
   ·refine l_p 1 tK rfl ?_
    refine lC (o_call fo107 rfl rfl rfl (hasR_spec p hp 98 _) ?_)
    rintro _ _ ⟨rfl, rfl⟩
    refine l_p 1 tK rfl ?_
    refine l_split 98 _ rfl (fun c28 => ?_) (fun c28 => ?_)
    ·refine l_p 1 tK rfl ?_
     refine lC (o_ld tK (h2.cell 3 _ rfl) rfl rfl rfl rfl rfl ?_)
     refine l_p 5 tK rfl (q1 ?_)
     refine c_ifN _ rfl (fun c29 => ?_) (fun c29 => ?_)
     ·refine q0 (l_p 1 tK rfl (q1 (c_ret (x_seqR (x_ret1 rfl rfl ?_)))))
      refine ⟨?_, hE⟩
      have hA : ((decide (0 ≤ t.n) && (!decide (0 < t.n) || (hasB p 105 || (hasB p 98 && decide (t.n = 1)))))) = false := by
       simp_all <;> omega
      unfold partsB
      rw [hA1, hA2, hA3, hA]
      simp
     refine c_skip ?_
     have hA : (decide (0 ≤ t.n) && (!decide (0 < t.n) || (hasB p 105 || (hasB p 98 && decide (t.n = 1))))) = true := by
      simp_all <;> omega
     exact x_cut (()) (s2 rfl rfl) ⟨hA, h2, ha, hlow, hE, hB⟩
    refine l_p 7 tK rfl (q1 (c_ifT rfl (q0 (l_p 1 tK rfl (q1 (c_ret (x_seqR (x_ret1 rfl rfl ?_))))))))
    refine ⟨?_, hE⟩
    have hA : ((decide (0 ≤ t.n) && (!decide (0 < t.n) || (hasB p 105 || (hasB p 98 && decide (t.n = 1)))))) = false := by
     simp_all <;> omega
    unfold partsB
    rw [hA1, hA2, hA3, hA]
    simp
   refine l_p 10 tK rfl (q1 (c_ifF rfl (c_skip ?_)))
   have hA : (decide (0 ≤ t.n) && (!decide (0 < t.n) || (hasB p 105 || (hasB p 98 && decide (t.n = 1))))) = true := by
    simp_all <;> omega
   exact x_cut (()) (s2 rfl rfl) ⟨hA, h2, ha, hlow, hE, hB⟩
  refine l_p 15 tK rfl (q1 (c_ifF rfl (c_skip ?_)))
  have hA : (decide (0 ≤ t.n) && (!decide (0 < t.n) || (hasB p 105 || (hasB p 98 && decide (t.n = 1))))) = true := by
   simp_all <;> omega
  exact x_cut (()) (s2 rfl rfl) ⟨hA, h2, ha, hlow, hE, hB⟩
 clear h2 ha hlow hE hB
 rintro _ w84 ⟨hA4, h2, ha, hlow, hE, hB⟩
 refine c_seq (q0 (l_p 1 tK rfl ?_))
 refine lC (o_ld tK (h2.cell 4 _ rfl) rfl rfl rfl rfl rfl ?_)
 refine l_p 1 tK rfl (q1 ?_)
 refine c_ifB _ rfl (fun c30 => ?_) (fun c30 => ?_)
 ·refine q0 (l_p 1 tK rfl ?_)
  refine lC (o_call fo107 rfl rfl rfl (hasR_spec p hp 84 _) ?_)
  rintro _ _ ⟨rfl, rfl⟩
  refine l_p 2 tK rfl ?_
  refine l_splitB 112 _ rfl (fun c31 => ?_) (fun c31 => ?_)
  ·refine l_p 1 tK rfl ?_
   refine lC (o_lds tK (fun j v hv => (h2).mid 5 (sub := [.int .u8 t.ann.op, .string t.ann.name, .int .i64 t.ann.n, akv]) rfl j v hv) rfl rfl rfl rfl rfl rfl ?_)
   refine lC (o_call fo108 rfl rfl rfl (zero_spec _ _ _ _ ha hlow) ?_)
   rintro _ w7 ⟨rfl, ew7⟩
   replace hE := ew7.bl hE hB
   replace h2 := h2.ext ew7
   replace ha := Rep.ext ha ew7
   replace hlow := hlow.ext ew7
   replace hB := ew7.z hB
   refine l_p 2 tK rfl (q1 (c_ret (x_seqR (x_ret1 rfl rfl ?_))))
   refine ⟨?_, hE⟩
   unfold partsB
   rw [hA1, hA2, hA3, hA4]
   simp_all
  refine l_p 5 tK rfl (q1 (c_ret (x_seqR (x_ret1 rfl rfl ?_))))
  refine ⟨?_, hE⟩
  unfold partsB
  rw [hA1, hA2, hA3, hA4]
  simp_all
 refine c_skip (x_seq (q0 (l_p 1 tK rfl ?_)))
 refine lC (o_call fo107 rfl rfl rfl (hasR_spec p hp 84 _) ?_)
 rintro _ _ ⟨rfl, rfl⟩
 refine l_p 1 tK rfl ?_
 refine l_split 119 _ rfl (fun c32 => ?_) (fun c32 => ?_)
 ·refine l_p 5 tK rfl ?_
  refine lC (o_lds tK (fun j v hv => (h2).mid 5 (sub := [.int .u8 t.ann.op, .string t.ann.name, .int .i64 t.ann.n, akv]) rfl j v hv) rfl rfl rfl rfl rfl rfl ?_)
  refine lC (o_call fo45 rfl rfl rfl (refRight_spec _ _ _ _ ha hlow hz) ?_)
  rintro _ w8 ⟨rfl, ew8⟩
  replace hE := ew8.bl hE hB
  replace h2 := h2.ext ew8
  replace ha := Rep.ext ha ew8
  replace hlow := hlow.ext ew8
  replace hB := ew8.z hB
  refine l_p 2 tK rfl ?_
  refine l_split 128 _ rfl (fun c33 => ?_) (fun c33 => ?_)
  ·refine l_p 1 tK rfl ?_
   refine lC (o_lds tK (fun j v hv => (h2).mid 5 (sub := [.int .u8 t.ann.op, .string t.ann.name, .int .i64 t.ann.n, akv]) rfl j v hv) rfl rfl rfl rfl rfl rfl ?_)
   have hsh : shapeF t.ann 116 = true := by
    have h9 : rightB t.ann = true := by assumption
    unfold rightB at h9; simp_all
   refine lC (o_call fo109 rfl rfl rfl (refVars_spec t.ann 116 _ _ _ hsh ha hlow hz) ?_)
   rintro vhv w9 ⟨hv, ew9⟩
   replace hE := ew9.bl hE hB
   replace h2 := h2.ext ew9
   replace ha := Rep.ext ha ew9
   replace hlow := hlow.ext ew9
   replace hB := ew9.z hB
   refine lC (o_len tK hv rfl rfl rfl rfl rfl ?_)
   refine l_p 3 tK rfl (q1 (c_ret (x_ret1 rfl rfl ?_)))
   refine ⟨?_, hE⟩
   unfold partsB
   rw [hA1, hA2, hA3, hA4]
   simp_all
  refine l_p 7 tK rfl (q1 (c_ret (x_ret1 rfl rfl ?_)))
  refine ⟨?_, hE⟩
  unfold partsB
  rw [hA1, hA2, hA3, hA4]
  simp_all
 refine l_p 1 tK rfl ?_
 refine lC (o_call fo107 rfl rfl rfl (hasR_spec p hp 116 _) ?_)
 rintro _ _ ⟨rfl, rfl⟩
 refine l_p 2 tK rfl ?_
 refine l_split 123 _ rfl (fun c34 => ?_) (fun c34 => ?_)
 ·refine l_p 1 tK rfl ?_
  refine lC (o_lds tK (fun j v hv => (h2).mid 5 (sub := [.int .u8 t.ann.op, .string t.ann.name, .int .i64 t.ann.n, akv]) rfl j v hv) rfl rfl rfl rfl rfl rfl ?_)
  refine lC (o_call fo45 rfl rfl rfl (refRight_spec _ _ _ _ ha hlow hz) ?_)
  rintro _ w10 ⟨rfl, ew10⟩
  replace hE := ew10.bl hE hB
  replace h2 := h2.ext ew10
  replace ha := Rep.ext ha ew10
  replace hlow := hlow.ext ew10
  replace hB := ew10.z hB
  refine l_p 2 tK rfl ?_
  refine l_split 128 _ rfl (fun c35 => ?_) (fun c35 => ?_)
  ·refine l_p 1 tK rfl ?_
   refine lC (o_lds tK (fun j v hv => (h2).mid 5 (sub := [.int .u8 t.ann.op, .string t.ann.name, .int .i64 t.ann.n, akv]) rfl j v hv) rfl rfl rfl rfl rfl rfl ?_)
   have hsh : shapeF t.ann 116 = true := by
    have h9 : rightB t.ann = true := by assumption
    unfold rightB at h9; simp_all
   refine lC (o_call fo109 rfl rfl rfl (refVars_spec t.ann 116 _ _ _ hsh ha hlow hz) ?_)
   rintro vhv w11 ⟨hv, ew11⟩
   replace hE := ew11.bl hE hB
   replace h2 := h2.ext ew11
   replace ha := Rep.ext ha ew11
   replace hlow := hlow.ext ew11
   replace hB := ew11.z hB
   refine lC (o_len tK hv rfl rfl rfl rfl rfl ?_)
   refine l_p 3 tK rfl (q1 (c_ret (x_ret1 rfl rfl ?_)))
   refine ⟨?_, hE⟩
   unfold partsB
   rw [hA1, hA2, hA3, hA4]
   simp_all
  refine l_p 7 tK rfl (q1 (c_ret (x_ret1 rfl rfl ?_)))
  refine ⟨?_, hE⟩
  unfold partsB
  rw [hA1, hA2, hA3, hA4]
  simp_all
 refine l_p 12 tK rfl (q1 (c_ret (x_ret1 rfl rfl ?_)))
 refine ⟨?_, hE⟩
 unfold partsB
 rw [hA1, hA2, hA3, hA4]
 simp_all
end Go.Proofs.Ytohfnpmehgpphaa
namespace Go.Proofs.Ytohfnpmehgpphaa
open Go Rw Go.RowKit
set_option maxRecDepth 100000
theorem takeM_same {l k : List Tm} {i : Nat} (hi : i < l.length) (hk : i < k.length) (h : l.take i = k.take i) (e : l[i] = k[i]) : l.take (i + 1) = k.take (i + 1) := by
 rw [List.take_succ_eq_append_getElem hi, List.take_succ_eq_append_getElem hk, h, e]
theorem takeM_full {l k : List Tm} {i : Nat} (hi : l.length ≤ i) (hl : l.length = k.length) (h : l.take i = k.take i) : l = k := by
 rw [List.take_of_length_le hi, List.take_of_length_le (by omega)] at h; exact h
theorem partsS_size (op : Int) : (partsS op).size < 100 := by
 by_cases h : op < 32 ∨ 52 ≤ op
 ·rw [partsS, if_pos h]; decide
 ·rcases op_cases h with e | e | e | e | e | e | e | e | e | e | e | e | e | e | e | e | e | e | e | e <;> subst e <;> decide
theorem refTRight_spec : ∀ (t : Tm) (arm : Bool) (M : Nat → Prop) (w : World) (v : Value), Rep.R M w v t → Low M w → AnnS t → Calls Try.prog 43 #[v, .bool arm] w (Ret fun r w' => r = .bool (refT t arm) ∧ Ext w w') := by
 refine Tm.ind fun t ih => ?_
 intro arm M w v ht hlow hz
 have hE : Below w.heap.size w w := Below.refl _ _
 have hB : w.heap.size ≤ w.heap.size := Nat.le_refl _
 obtain ⟨akv, kv, rfl, op, nm, ag, n64, ha, hk⟩ := tm_open ht
 have hlt := hk.lt
 have hps : (partsS t.op).size < 100 := partsS_size t.op
 refine c_enter (n := 107) Try.func43 rfl rfl rfl ?_
 refine q0 ?_
 refine lC (o_box rfl rfl rfl ?_)
 intro b2 w1 hb_b2 ew1 h2
 replace h2 : Box _ b2 84 [.int .u8 t.op, .string t.name, .string t.arg, .int .i64 t.n, .bool t.has, .int .u8 t.ann.op, .string t.ann.name, .int .i64 t.ann.n, akv, kv] := h2
 replace h2 := h2.at (nM_of hlow hb_b2)
 replace hE := ew1.bl hE hB
 replace ht := Rep.ext ht ew1
 replace ha := Rep.ext ha ew1
 replace hk := hk.ext ew1
 replace hlow := hlow.ext ew1
 replace hB := ew1.z hB
 refine l_p 1 tK rfl (q1 (q0 (l_p 1 tK rfl ?_)))
 refine lC (o_ld tK (h2.cell 0 _ rfl) rfl rfl rfl rfl rfl ?_)
 refine lC (o_call fo84 rfl rfl rfl (partsS_spec t.op op M _ hlow) ?_)
 rintro _ w2 ⟨rfl, ew2⟩
 replace hE := ew2.bl hE hB
 replace ht := Rep.ext ht ew2
 replace ha := Rep.ext ha ew2
 replace hk := hk.ext ew2
 replace h2 := h2.ext ew2
 replace hlow := hlow.ext ew2
 replace hB := ew2.z hB
 refine l_p 1 tK rfl (q1 ?_)
 refine c_cut (X := Unit) (fun _u => [(2, .pointer (some ⟨b2, 0, none⟩)), (5, .string (partsS t.op))]) (fun _u w' => refT t arm = (bif decide ((partsS t.op) = ⟨#[99]⟩) then caseL (refL t.kids) else decide (t.kids.length = countE (partsS t.op)) && allL (refL t.kids)) ∧ At M w' b2 0 [.int .u8 t.op, .string t.name, .string t.arg, .int .i64 t.n, .bool t.has, .int .u8 t.ann.op, .string t.ann.name, .int .i64 t.ann.n, akv, kv] ∧ Sl M w' kv t.kids ∧ Low M w' ∧ Below w.heap.size w w' ∧ w.heap.size ≤ w'.heap.size) ?_ ?_
 ·refine q0 (l_p 3 tK rfl ?_)
  refine l_splitP 15 _ rfl (fun c1 => ?_) (fun c1 => ?_)
  ·refine l_p 17 tK rfl (q1 (c_ifT rfl (q0 (l_p 1 tK rfl (q1 (c_ret (x_seqR (x_ret1 rfl rfl ?_))))))))
   exact ⟨by rw [refT_eq]; clear ih; unfold armsB; simp_all, hE⟩
  refine l_p 2 tK rfl ?_
  refine lC (o_ld tK (h2.cell 0 _ rfl) rfl rfl rfl rfl rfl ?_)
  refine l_p 2 tK rfl ?_
  refine l_splitP 20 _ rfl (fun c2 => ?_) (fun c2 => ?_)
  ·refine l_p 4 tK rfl ?_
   refine lC (o_bne tK rfl rfl rfl rfl rfl rfl ?_)
   refine l_p 2 tK rfl ?_
   refine l_split 27 _ rfl (fun c3 => ?_) (fun c3 => ?_)
   ·refine l_p 5 tK rfl (q1 (c_ifT rfl (q0 (l_p 1 tK rfl (q1 (c_ret (x_seqR (x_ret1 rfl rfl ?_))))))))
    exact ⟨by rw [refT_eq]; clear ih; unfold armsB; simp_all, hE⟩
   refine lC (o_lds tK (fun j v hv => h2.cell j v hv) rfl rfl rfl rfl rfl rfl ?_)
   refine l_p 1 tK rfl ?_
   refine lC (o_call fo85 rfl rfl rfl (partsR_spec t _ (by omega) _ _ _ ht hlow hz.self) ?_)
   rintro _ w3 ⟨rfl, ew3⟩
   replace hE := ew3.bl hE hB
   replace ht := Rep.ext ht ew3
   replace ha := Rep.ext ha ew3
   replace hk := hk.ext ew3
   replace h2 := h2.ext ew3
   replace hlow := hlow.ext ew3
   replace hB := ew3.z hB
   refine l_p 2 tK rfl (q1 ?_)
   refine c_ifB _ rfl (fun c4 => ?_) (fun c4 => ?_)
   ·refine q0 (l_p 1 tK rfl (q1 (c_ret (x_seqR (x_ret1 rfl rfl ?_)))))
    exact ⟨by rw [refT_eq]; clear ih; unfold armsB; simp_all, hE⟩
   refine c_skip ?_
   have hhd : refT t arm = (bif decide ((partsS t.op) = ⟨#[99]⟩) then caseL (refL t.kids) else decide (t.kids.length = countE (partsS t.op)) && allL (refL t.kids)) := by
    rw [refT_eq]
    clear ih
    unfold armsB
    simp_all
   exact x_cut (()) (s2 rfl rfl) ⟨hhd, h2, hk, hlow, hE, hB⟩
  refine l_p 1 tK rfl ?_
  refine lC (o_ld tK (h2.cell 0 _ rfl) rfl rfl rfl rfl rfl ?_)
  refine l_p 2 tK rfl ?_
  refine lC (o_bne tK rfl rfl rfl rfl rfl rfl ?_)
  refine l_p 2 tK rfl ?_
  refine l_split 27 _ rfl (fun c5 => ?_) (fun c5 => ?_)
  ·refine l_p 5 tK rfl (q1 (c_ifT rfl (q0 (l_p 1 tK rfl (q1 (c_ret (x_seqR (x_ret1 rfl rfl ?_))))))))
   exact ⟨by rw [refT_eq]; clear ih; unfold armsB; simp_all, hE⟩
  refine lC (o_lds tK (fun j v hv => h2.cell j v hv) rfl rfl rfl rfl rfl rfl ?_)
  refine l_p 1 tK rfl ?_
  refine lC (o_call fo85 rfl rfl rfl (partsR_spec t _ (by omega) _ _ _ ht hlow hz.self) ?_)
  rintro _ w4 ⟨rfl, ew4⟩
  replace hE := ew4.bl hE hB
  replace ht := Rep.ext ht ew4
  replace ha := Rep.ext ha ew4
  replace hk := hk.ext ew4
  replace h2 := h2.ext ew4
  replace hlow := hlow.ext ew4
  replace hB := ew4.z hB
  refine l_p 2 tK rfl (q1 ?_)
  refine c_ifB _ rfl (fun c6 => ?_) (fun c6 => ?_)
  ·refine q0 (l_p 1 tK rfl (q1 (c_ret (x_seqR (x_ret1 rfl rfl ?_)))))
   exact ⟨by rw [refT_eq]; clear ih; unfold armsB; simp_all, hE⟩
  refine c_skip ?_
  have hhd : refT t arm = (bif decide ((partsS t.op) = ⟨#[99]⟩) then caseL (refL t.kids) else decide (t.kids.length = countE (partsS t.op)) && allL (refL t.kids)) := by
   rw [refT_eq]
   clear ih
   unfold armsB
   simp_all
  exact x_cut (()) (s2 rfl rfl) ⟨hhd, h2, hk, hlow, hE, hB⟩
 clear h2 hk ht ha hlow hE hB
 rintro _ w80 ⟨hhd, h2, hk, hlow, hE, hB⟩
 refine q0 (l_p 1 tK rfl (q1 (c_seq (q0 (l_p 1 tK rfl (q1 (c_blk ?_)))))))
 refine c_loop (X := Nat) (fun i => [(2, .pointer (some ⟨b2, 0, none⟩)), (5, .string (partsS t.op)), (6, .int .i64 (countTo (partsS t.op) i : Nat)), (7, .int .i64 (i : Nat))]) (fun i w' => i ≤ (partsS t.op).size ∧ At M w' b2 0 [.int .u8 t.op, .string t.name, .string t.arg, .int .i64 t.n, .bool t.has, .int .u8 t.ann.op, .string t.ann.name, .int .i64 t.ann.n, akv, kv] ∧ Sl M w' kv t.kids ∧ Low M w' ∧ Below w.heap.size w w' ∧ w.heap.size ≤ w'.heap.size) (fun i => (partsS t.op).size - i) (0) (s4 rfl rfl rfl rfl) ?_ ?_
 ·exact ⟨Nat.zero_le _, h2, hk, hlow, hE, hB⟩
 clear h2 hk hlow hE hB
 rintro i w5 ⟨hi, h2, hk, hlow, hE, hB⟩
 have hct := countTo_le (partsS t.op) i
 refine c_seq (q0 (l_p 4 tK rfl (q1 ?_)))
 refine c_ifP _ rfl (fun c7 => ?_) (fun c7 => ?_)
 ·refine c_skip (x_seq (c_seq (c_blk (q0 (l_p 2 tK rfl ?_)))))
  have his : i < (partsS t.op).size := by omega
  obtain ⟨ch, hd⟩ : ∃ ch, (partsS t.op).data[i]? = some ch := ⟨_, Array.getElem?_eq_getElem (show i < (partsS t.op).data.size from his)⟩
  refine lC (o_si tK rfl rfl rfl rfl rfl hd rfl rfl ?_)
  refine l_p 1 tK rfl (q1 ?_)
  refine c_ifP _ rfl (fun c8 => ?_) (fun c8 => ?_)
  ·refine c_reg (l_p 1 tK rfl ?_)
   refine lC (o_ai rfl rfl rfl (by omega) rfl rfl ?_)
   refine l_p 1 tK rfl (q2 (x_seq (c_reg (l_p 1 tK rfl ?_))))
   refine lC (o_ai rfl rfl rfl (by omega) rfl rfl ?_)
   refine l_p 1 tK rfl (l_nil ?_)
   exact x_round (i + 1) (s4 rfl rfl (get_num rfl (by rw [countTo_step hd, if_pos (UInt8.toNat_inj.1 (show ch.toNat = 101 by omega))]; omega)) (get_num rfl (by omega))) ⟨by omega, h2, hk, hlow, hE, hB⟩ (by omega)
  refine c_skip (x_blk (x_seq (c_reg (l_p 1 tK rfl ?_))))
  refine lC (o_ai rfl rfl rfl (by omega) rfl rfl ?_)
  refine l_p 1 tK rfl (l_nil ?_)
  exact x_round (i + 1) (s4 rfl rfl (get_num rfl (by rw [countTo_step hd, if_neg (fun e : ch = 101 => c8 (by rw [e]; rfl))]; omega)) (get_num rfl (by omega))) ⟨by omega, h2, hk, hlow, hE, hB⟩ (by omega)
 refine c_exit (x_seqE (x_seqE (x_blkE (x_seq (c_seq (q0 (l_p 2 tK rfl (q1 ?_))))))))
 refine c_ifP _ rfl (fun c9 => ?_) (fun c9 => ?_)
 ·refine c_seq (q0 (l_p 1 tK rfl ?_))
  refine lC (o_ld tK (h2.cell 9 _ rfl) rfl rfl rfl rfl rfl ?_)
  refine lC (o_len tK hk rfl rfl rfl rfl rfl ?_)
  refine l_p 2 tK rfl ?_
  refine l_splitP 51 _ rfl (fun c10 => ?_) (fun c10 => ?_)
  ·refine l_p 7 tK rfl (q1 (c_ifT rfl (q0 (l_p 1 tK rfl (q1 (c_ret (x_seqR (x_seqR (x_ret1 rfl rfl ?_)))))))))
   refine ⟨?_, hE⟩
   rw [hhd, decide_eq_true (by assumption), cond_true]
   by_cases h9 : t.kids.length = 0
   ·rw [List.eq_nil_of_length_eq_zero h9]; rfl
   ·first | (exfalso; omega) | (rw [caseL_step (by omega)]; clear ih; simp_all)
  refine l_p 1 tK rfl ?_
  refine lC (o_ld tK (h2.cell 9 _ rfl) rfl rfl rfl rfl rfl ?_)
  have h0k : 0 < t.kids.length := by omega
  refine lC (o_ixS tK hk (List.getElem?_eq_getElem h0k) rfl rfl rfl rfl rfl rfl rfl rfl rfl ?_)
  intro ebx eox eux hyx hatx
  obtain ⟨akvx, kvx, rfl, opx, nmx, agx, n64x, hax, hkx⟩ := tm_open hyx
  replace hatx : At M w5 ebx eox [.int .u8 t.kids[0].op, .string t.kids[0].name, .string t.kids[0].arg, .int .i64 t.kids[0].n, .bool t.kids[0].has, .int .u8 t.kids[0].ann.op, .string t.kids[0].ann.name, .int .i64 t.kids[0].ann.n, akvx, kvx] := hatx
  refine lC (o_lds tK (fun j v hv => hatx.cell j v hv) rfl rfl rfl rfl rfl rfl ?_)
  refine lC (o_call fo43 rfl rfl rfl (ih _ (List.getElem_mem h0k) _ M _ _ hyx hlow (hz.kid (List.getElem_mem h0k))) ?_)
  rintro _ w6 ⟨rfl, ew6⟩
  replace hE := ew6.bl hE hB
  replace h2 := h2.ext ew6
  replace hk := hk.ext ew6
  replace hyx := Rep.ext hyx ew6
  replace hax := Rep.ext hax ew6
  replace hkx := hkx.ext ew6
  replace hatx := hatx.ext ew6
  replace hlow := hlow.ext ew6
  replace hB := ew6.z hB
  refine l_p 2 tK rfl (q1 ?_)
  refine c_ifB _ rfl (fun c11 => ?_) (fun c11 => ?_)
  ·refine q0 (l_p 1 tK rfl (q1 (c_ret (x_seqR (x_seqR (x_ret1 rfl rfl ?_))))))
   refine ⟨?_, hE⟩
   rw [hhd, decide_eq_true (by assumption), cond_true]
   by_cases h9 : t.kids.length = 0
   ·rw [List.eq_nil_of_length_eq_zero h9]; rfl
   ·first | (exfalso; omega) | (rw [caseL_step (by omega)]; clear ih; simp_all)
  refine c_skip (x_seq (c_seq (q0 (l_p 1 tK rfl (q1 (c_blk ?_))))))
  have h0k : 0 < t.kids.length := by omega
  have hcase : refT t arm = armsL (refL (t.kids.drop 1)) := by
   rw [hhd, decide_eq_true (by assumption), cond_true, caseL_step h0k]; clear ih; simp_all
  refine c_loop (X := Nat) (fun i => [(2, .pointer (some ⟨b2, 0, none⟩)), (8, .int .i64 (i : Nat))]) (fun i w' => 1 ≤ i ∧ i ≤ t.kids.length ∧ refT t arm = armsL (refL (t.kids.drop i)) ∧ At M w' b2 0 [.int .u8 t.op, .string t.name, .string t.arg, .int .i64 t.n, .bool t.has, .int .u8 t.ann.op, .string t.ann.name, .int .i64 t.ann.n, akv, kv] ∧ Sl M w' kv t.kids ∧ Low M w' ∧ Below w.heap.size w w' ∧ w.heap.size ≤ w'.heap.size) (fun i => t.kids.length - i) (1) (s2 rfl rfl) ?_ ?_
  ·exact ⟨Nat.le_refl _, by omega, hcase, h2, hk, hlow, hE, hB⟩
  clear h2 hk hlow hE hB
  rintro i w7 ⟨hi1, hi, hinv, h2, hk, hlow, hE, hB⟩
  refine c_seq (q0 (l_p 2 tK rfl ?_))
  refine lC (o_ld tK (h2.cell 9 _ rfl) rfl rfl rfl rfl rfl ?_)
  refine lC (o_len tK hk rfl rfl rfl rfl rfl ?_)
  refine l_p 1 tK rfl (q1 ?_)
  refine c_ifP _ rfl (fun c12 => ?_) (fun c12 => ?_)
  ·refine c_skip (x_seq (c_seq (c_blk (q0 (l_p 1 tK rfl ?_)))))
   refine lC (o_ld tK (h2.cell 9 _ rfl) rfl rfl rfl rfl rfl ?_)
   refine l_p 1 tK rfl ?_
   have hik : i < t.kids.length := by omega
   refine lC (o_ixS tK hk (List.getElem?_eq_getElem hik) rfl rfl rfl rfl rfl rfl rfl rfl rfl ?_)
   intro ebx eox eux hyx hatx
   obtain ⟨akvx, kvx, rfl, opx, nmx, agx, n64x, hax, hkx⟩ := tm_open hyx
   replace hatx : At M w7 ebx eox [.int .u8 t.kids[i].op, .string t.kids[i].name, .string t.kids[i].arg, .int .i64 t.kids[i].n, .bool t.kids[i].has, .int .u8 t.kids[i].ann.op, .string t.kids[i].ann.name, .int .i64 t.kids[i].ann.n, akvx, kvx] := hatx
   refine lC (o_lds tK (fun j v hv => hatx.cell j v hv) rfl rfl rfl rfl rfl rfl ?_)
   refine lC (o_call fo43 rfl rfl rfl (ih _ (List.getElem_mem hik) _ M _ _ hyx hlow (hz.kid (List.getElem_mem hik))) ?_)
   rintro _ w8 ⟨rfl, ew8⟩
   replace hE := ew8.bl hE hB
   replace h2 := h2.ext ew8
   replace hk := hk.ext ew8
   replace hyx := Rep.ext hyx ew8
   replace hax := Rep.ext hax ew8
   replace hkx := hkx.ext ew8
   replace hatx := hatx.ext ew8
   replace hlow := hlow.ext ew8
   replace hB := ew8.z hB
   refine l_p 2 tK rfl ?_
   refine l_splitB 73 _ rfl (fun c13 => ?_) (fun c13 => ?_)
   ·refine l_p 16 tK rfl (q1 (c_ifT rfl (q0 (l_p 1 tK rfl (q1 (c_ret (x_blkR (x_seqR (x_seqR (x_blkR (x_seqR (x_seqR (x_ret1 rfl rfl ?_)))))))))))))
    exact ⟨by rw [hinv, armsL_step hik]; clear ih; first | (rw [decide_eq_true (show i + 1 < t.kids.length by omega)]; simp_all) | simp_all, hE⟩
   refine l_p 1 tK rfl ?_
   refine lC (o_ld tK (h2.cell 9 _ rfl) rfl rfl rfl rfl rfl ?_)
   refine l_p 1 tK rfl ?_
   refine lC (o_ixS tK hk (List.getElem?_eq_getElem hik) rfl rfl rfl rfl rfl rfl rfl rfl rfl ?_)
   intro eby eoy euy hyy haty
   obtain ⟨akvy, kvy, rfl, opy, nmy, agy, n64y, hay, hky⟩ := tm_open hyy
   replace haty : At M w8 eby eoy [.int .u8 t.kids[i].op, .string t.kids[i].name, .string t.kids[i].arg, .int .i64 t.kids[i].n, .bool t.kids[i].has, .int .u8 t.kids[i].ann.op, .string t.kids[i].ann.name, .int .i64 t.kids[i].ann.n, akvy, kvy] := haty
   refine l_p 1 tK rfl ?_
   refine lC (o_ld tK (haty.cell 0 _ rfl) rfl rfl rfl rfl rfl ?_)
   refine l_p 2 tK rfl ?_
   refine l_splitP 81 _ rfl (fun c14 => ?_) (fun c14 => ?_)
   ·refine l_p 2 tK rfl ?_
    refine lC (o_ld tK (h2.cell 9 _ rfl) rfl rfl rfl rfl rfl ?_)
    refine lC (o_len tK hk rfl rfl rfl rfl rfl ?_)
    refine lC (o_ai rfl rfl rfl (by omega) rfl rfl ?_)
    refine l_p 3 tK rfl (q1 ?_)
    refine c_ifP _ rfl (fun c15 => ?_) (fun c15 => ?_)
    ·refine q0 (l_p 1 tK rfl (q1 (c_ret (x_blkR (x_seqR (x_seqR (x_blkR (x_seqR (x_seqR (x_ret1 rfl rfl ?_))))))))))
     exact ⟨by rw [hinv, armsL_step hik]; clear ih; first | (rw [decide_eq_true (show i + 1 < t.kids.length by omega)]; simp_all) | simp_all, hE⟩
    refine c_skip (x_blk (x_seq (c_reg (l_p 1 tK rfl ?_))))
    refine lC (o_ai rfl rfl rfl (by omega) rfl rfl ?_)
    refine l_p 1 tK rfl (l_nil ?_)
    exact x_round (i + 1) (s2 rfl (get_num rfl (by omega))) ⟨by omega, by omega, by rw [hinv, armsL_step hik]; clear ih; first | (rw [decide_eq_false (show ¬ i + 1 < t.kids.length by omega)]; simp_all) | simp_all, h2, hk, hlow, hE, hB⟩ (by omega)
   refine l_p 8 tK rfl (q1 (c_ifF rfl (c_skip (x_blk (x_seq (c_reg (l_p 1 tK rfl ?_)))))))
   refine lC (o_ai rfl rfl rfl (by omega) rfl rfl ?_)
   refine l_p 1 tK rfl (l_nil ?_)
   exact x_round (i + 1) (s2 rfl (get_num rfl (by omega))) ⟨by omega, by omega, by rw [hinv, armsL_step hik]; clear ih; first | (rw [decide_eq_false (show ¬ i + 1 < t.kids.length by omega)]; simp_all) | simp_all, h2, hk, hlow, hE, hB⟩ (by omega)
  refine c_exit (x_seqE (x_seqE (x_blkE (x_seq (q0 (l_p 1 tK rfl (q1 (c_ret (x_seqR (x_ret1 rfl rfl ?_))))))))))
  exact ⟨by rw [hinv, armsL_end (by omega)], hE⟩
 refine c_skip (x_seq (c_seq (q0 (l_p 1 tK rfl ?_))))
 refine lC (o_ld tK (h2.cell 9 _ rfl) rfl rfl rfl rfl rfl ?_)
 refine lC (o_len tK hk rfl rfl rfl rfl rfl ?_)
 refine l_p 2 tK rfl (q1 ?_)
 refine c_ifN _ rfl (fun c16 => ?_) (fun c16 => ?_)
 ·refine q0 (l_p 1 tK rfl (q1 (c_ret (x_seqR (x_ret1 rfl rfl ?_)))))
  have hlen : t.kids.length ≠ countE (partsS t.op) := by rw [← countTo_all (s := (partsS t.op)) (i := i) (by omega)]; omega
  exact ⟨by rw [hhd, decide_eq_false (by assumption), cond_false, decide_eq_false hlen]; rfl, hE⟩
 refine c_skip (x_seq (c_seq (q0 (l_p 1 tK rfl (q1 (c_blk ?_))))))
 have hlen : t.kids.length = countE (partsS t.op) := by rw [← countTo_all (s := (partsS t.op)) (i := i) (by omega)]; omega
 have hall : refT t arm = allL (refL (t.kids.drop 0)) := by
  rw [hhd, decide_eq_false (by assumption), cond_false, decide_eq_true hlen]; rfl
 have hcte : countTo (partsS t.op) i = t.kids.length := by rw [hlen, countTo_all (by omega)]
 have hgo : (countTo (partsS t.op) i : Int) = (t.kids.length : Int) := by omega
 refine c_loop (X := Nat) (fun j => [(2, .pointer (some ⟨b2, 0, none⟩)), (6, .int .i64 (t.kids.length : Int)), (9, .int .i64 (j : Nat))]) (fun j w' => j ≤ t.kids.length ∧ refT t arm = allL (refL (t.kids.drop j)) ∧ At M w' b2 0 [.int .u8 t.op, .string t.name, .string t.arg, .int .i64 t.n, .bool t.has, .int .u8 t.ann.op, .string t.ann.name, .int .i64 t.ann.n, akv, kv] ∧ Sl M w' kv t.kids ∧ Low M w' ∧ Below w.heap.size w w' ∧ w.heap.size ≤ w'.heap.size) (fun j => t.kids.length - j) (0) (s3 rfl (get_num rfl hgo) rfl) ?_ ?_
 ·exact ⟨Nat.zero_le _, hall, h2, hk, hlow, hE, hB⟩
 clear h2 hk hlow hE hB
 rintro j w9 ⟨hj, hinv, h2, hk, hlow, hE, hB⟩
 refine c_seq (q0 (l_p 3 tK rfl (q1 ?_)))
 refine c_ifP _ rfl (fun c17 => ?_) (fun c17 => ?_)
 ·refine c_skip (x_seq (c_seq (c_blk (q0 (l_p 1 tK rfl ?_)))))
  refine lC (o_ld tK (h2.cell 9 _ rfl) rfl rfl rfl rfl rfl ?_)
  refine l_p 1 tK rfl ?_
  have hjk : j < t.kids.length := by omega
  refine lC (o_ixS tK hk (List.getElem?_eq_getElem hjk) rfl rfl rfl rfl rfl rfl rfl rfl rfl ?_)
  intro ebx eox eux hyx hatx
  obtain ⟨akvx, kvx, rfl, opx, nmx, agx, n64x, hax, hkx⟩ := tm_open hyx
  replace hatx : At M w9 ebx eox [.int .u8 t.kids[j].op, .string t.kids[j].name, .string t.kids[j].arg, .int .i64 t.kids[j].n, .bool t.kids[j].has, .int .u8 t.kids[j].ann.op, .string t.kids[j].ann.name, .int .i64 t.kids[j].ann.n, akvx, kvx] := hatx
  refine lC (o_lds tK (fun j v hv => hatx.cell j v hv) rfl rfl rfl rfl rfl rfl ?_)
  refine lC (o_call fo43 rfl rfl rfl (ih _ (List.getElem_mem hjk) _ M _ _ hyx hlow (hz.kid (List.getElem_mem hjk))) ?_)
  rintro _ w10 ⟨rfl, ew10⟩
  replace hE := ew10.bl hE hB
  replace h2 := h2.ext ew10
  replace hk := hk.ext ew10
  replace hyx := Rep.ext hyx ew10
  replace hax := Rep.ext hax ew10
  replace hkx := hkx.ext ew10
  replace hatx := hatx.ext ew10
  replace hlow := hlow.ext ew10
  replace hB := ew10.z hB
  refine l_p 1 tK rfl (q1 ?_)
  refine c_ifB _ rfl (fun c18 => ?_) (fun c18 => ?_)
  ·refine q0 (l_p 1 tK rfl (q1 (c_ret (x_blkR (x_seqR (x_seqR (x_blkR (x_seqR (x_ret1 rfl rfl ?_)))))))))
   exact ⟨by rw [hinv, allL_step hjk]; clear ih; simp_all, hE⟩
  refine c_skip (x_blk (x_seq (c_reg (l_p 1 tK rfl ?_))))
  refine lC (o_ai rfl rfl rfl (by omega) rfl rfl ?_)
  refine l_p 1 tK rfl (l_nil ?_)
  exact x_round (j + 1) (s3 rfl rfl (get_num rfl (by omega))) ⟨by omega, by rw [hinv, allL_step hjk]; clear ih; simp_all, h2, hk, hlow, hE, hB⟩ (by omega)
 refine c_exit (x_seqE (x_seqE (x_blkE (x_seq (q0 (l_p 1 tK rfl (q1 (c_ret (x_ret1 rfl rfl ?_)))))))))
 exact ⟨by rw [hinv, allL_end (by omega)], hE⟩
theorem refTR_spec (t : Tm) (arm : Bool) (M : Nat → Prop) (w : World) (v : Value) (ht : Rep.R M w v t) (hlow : Low M w) (hz : AnnS t) :
  Calls Try.prog 43 #[v, .bool arm] w (Ret fun r w' => r = .bool (rightT t arm) ∧ Ext w w') := ref_right t arm ▸ refTRight_spec t arm M w v ht hlow hz
theorem alikeM_spec : ∀ (t : Tm) (s : Tm) (M : Nat → Prop) (w : World) (v u : Value), Rep.R M w v t → Rep.R M w u s → Low M w → Calls Try.prog 37 #[v, u] w (Ret fun r w' => r = .bool (@decide (t = s) (Classical.propDecidable _)) ∧ Ext w w') := by
 refine Tm.ind fun t ih => ?_
 intro s M w v u ht hs hlow
 have hE : Below w.heap.size w w := Below.refl _ _
 have hB : w.heap.size ≤ w.heap.size := Nat.le_refl _
 obtain ⟨akv, kv, rfl, op, nm, ag, n64, ha, hk⟩ := tm_open ht
 obtain ⟨akvs, kvs, rfl, ops, nms, ags, n64s, has, hks⟩ := tm_open hs
 have hlt := hk.lt
 refine c_enter (n := 75) Try.func37 rfl rfl rfl ?_
 refine q0 ?_
 refine lC (o_box rfl rfl rfl ?_)
 intro b1 w1 hb_b1 ew1 h1
 replace h1 : Box _ b1 84 [.int .u8 t.op, .string t.name, .string t.arg, .int .i64 t.n, .bool t.has, .int .u8 t.ann.op, .string t.ann.name, .int .i64 t.ann.n, akv, kv] := h1
 replace h1 := h1.at (nM_of hlow hb_b1)
 replace hE := ew1.bl hE hB
 replace ht := Rep.ext ht ew1
 replace ha := Rep.ext ha ew1
 replace hk := hk.ext ew1
 replace hs := Rep.ext hs ew1
 replace has := Rep.ext has ew1
 replace hks := hks.ext ew1
 replace hlow := hlow.ext ew1
 replace hB := ew1.z hB
 refine lC (o_box rfl rfl rfl ?_)
 intro b2 w2 hb_b2 ew2 h2
 replace h2 : Box _ b2 84 [.int .u8 s.op, .string s.name, .string s.arg, .int .i64 s.n, .bool s.has, .int .u8 s.ann.op, .string s.ann.name, .int .i64 s.ann.n, akvs, kvs] := h2
 replace h2 := h2.at (nM_of hlow hb_b2)
 replace hE := ew2.bl hE hB
 replace ht := Rep.ext ht ew2
 replace ha := Rep.ext ha ew2
 replace hk := hk.ext ew2
 replace hs := Rep.ext hs ew2
 replace has := Rep.ext has ew2
 replace hks := hks.ext ew2
 replace h1 := h1.ext ew2
 replace hlow := hlow.ext ew2
 replace hB := ew2.z hB
 refine l_p 1 tK rfl (q1 (c_seq (q0 (l_p 1 tK rfl ?_))))
 refine lC (o_ld tK (h1.cell 0 _ rfl) rfl rfl rfl rfl rfl ?_)
 refine l_p 1 tK rfl ?_
 refine lC (o_ld tK (h2.cell 0 _ rfl) rfl rfl rfl rfl rfl ?_)
 refine l_p 2 tK rfl ?_
 refine l_splitN 11 _ rfl (fun c1 => ?_) (fun c1 => ?_)
 ·refine l_p 44 tK rfl (q1 (c_ifT rfl (q0 (l_p 1 tK rfl (q1 (c_ret (x_seqR (x_ret1 rfl rfl ?_))))))))
  exact ⟨by rw [cl_false (fun e => by subst e; clear ih; first | simp_all | (rw [cl_true rfl] at *; simp_all))], hE⟩
 refine l_p 1 tK rfl ?_
 refine lC (o_ld tK (h1.cell 1 _ rfl) rfl rfl rfl rfl rfl ?_)
 refine l_p 1 tK rfl ?_
 refine lC (o_ld tK (h2.cell 1 _ rfl) rfl rfl rfl rfl rfl ?_)
 refine l_p 3 tK rfl ?_
 refine l_splitN 18 _ rfl (fun c2 => ?_) (fun c2 => ?_)
 ·refine l_p 37 tK rfl (q1 (c_ifT rfl (q0 (l_p 1 tK rfl (q1 (c_ret (x_seqR (x_ret1 rfl rfl ?_))))))))
  exact ⟨by rw [cl_false (fun e => by subst e; clear ih; first | simp_all | (rw [cl_true rfl] at *; simp_all))], hE⟩
 refine l_p 1 tK rfl ?_
 refine lC (o_ld tK (h1.cell 2 _ rfl) rfl rfl rfl rfl rfl ?_)
 refine l_p 1 tK rfl ?_
 refine lC (o_ld tK (h2.cell 2 _ rfl) rfl rfl rfl rfl rfl ?_)
 refine l_p 3 tK rfl ?_
 refine l_splitN 25 _ rfl (fun c3 => ?_) (fun c3 => ?_)
 ·refine l_p 30 tK rfl (q1 (c_ifT rfl (q0 (l_p 1 tK rfl (q1 (c_ret (x_seqR (x_ret1 rfl rfl ?_))))))))
  exact ⟨by rw [cl_false (fun e => by subst e; clear ih; first | simp_all | (rw [cl_true rfl] at *; simp_all))], hE⟩
 refine l_p 1 tK rfl ?_
 refine lC (o_ld tK (h1.cell 3 _ rfl) rfl rfl rfl rfl rfl ?_)
 refine l_p 1 tK rfl ?_
 refine lC (o_ld tK (h2.cell 3 _ rfl) rfl rfl rfl rfl rfl ?_)
 refine l_p 3 tK rfl ?_
 refine l_splitN 32 _ rfl (fun c4 => ?_) (fun c4 => ?_)
 ·refine l_p 23 tK rfl (q1 (c_ifT rfl (q0 (l_p 1 tK rfl (q1 (c_ret (x_seqR (x_ret1 rfl rfl ?_))))))))
  exact ⟨by rw [cl_false (fun e => by subst e; clear ih; first | simp_all | (rw [cl_true rfl] at *; simp_all))], hE⟩
 refine l_p 1 tK rfl ?_
 refine lC (o_ld tK (h1.cell 4 _ rfl) rfl rfl rfl rfl rfl ?_)
 refine l_p 1 tK rfl ?_
 refine lC (o_ld tK (h2.cell 4 _ rfl) rfl rfl rfl rfl rfl ?_)
 refine lC (o_bne tK rfl rfl rfl rfl rfl rfl ?_)
 refine l_p 2 tK rfl ?_
 refine l_split 39 _ rfl (fun c5 => ?_) (fun c5 => ?_)
 ·refine l_p 16 tK rfl (q1 (c_ifT rfl (q0 (l_p 1 tK rfl (q1 (c_ret (x_seqR (x_ret1 rfl rfl ?_))))))))
  exact ⟨by rw [cl_false (fun e => by subst e; clear ih; first | simp_all | (rw [cl_true rfl] at *; simp_all))], hE⟩
 refine l_p 1 tK rfl ?_
 refine lC (o_lds tK (fun j v hv => (h1).mid 5 (sub := [.int .u8 t.ann.op, .string t.ann.name, .int .i64 t.ann.n, akv]) rfl j v hv) rfl rfl rfl rfl rfl rfl ?_)
 refine l_p 1 tK rfl ?_
 refine lC (o_lds tK (fun j v hv => (h2).mid 5 (sub := [.int .u8 s.ann.op, .string s.ann.name, .int .i64 s.ann.n, akvs]) rfl j v hv) rfl rfl rfl rfl rfl rfl ?_)
 refine lC (o_call fo38 rfl rfl rfl (alike_spec _ _ M _ _ _ ha has hlow) ?_)
 rintro _ w3 ⟨rfl, ew3⟩
 replace hE := ew3.bl hE hB
 replace ht := Rep.ext ht ew3
 replace ha := Rep.ext ha ew3
 replace hk := hk.ext ew3
 replace hs := Rep.ext hs ew3
 replace has := Rep.ext has ew3
 replace hks := hks.ext ew3
 replace h1 := h1.ext ew3
 replace h2 := h2.ext ew3
 replace hlow := hlow.ext ew3
 replace hB := ew3.z hB
 refine l_p 3 tK rfl ?_
 refine l_splitB 47 _ rfl (fun c6 => ?_) (fun c6 => ?_)
 ·refine l_p 8 tK rfl (q1 (c_ifT rfl (q0 (l_p 1 tK rfl (q1 (c_ret (x_seqR (x_ret1 rfl rfl ?_))))))))
  exact ⟨by rw [cl_false (fun e => by subst e; clear ih; first | simp_all | (rw [cl_true rfl] at *; simp_all))], hE⟩
 refine l_p 1 tK rfl ?_
 refine lC (o_ld tK (h1.cell 9 _ rfl) rfl rfl rfl rfl rfl ?_)
 refine lC (o_len tK hk rfl rfl rfl rfl rfl ?_)
 refine l_p 1 tK rfl ?_
 refine lC (o_ld tK (h2.cell 9 _ rfl) rfl rfl rfl rfl rfl ?_)
 refine lC (o_len tK hks rfl rfl rfl rfl rfl ?_)
 refine l_p 2 tK rfl (q1 ?_)
 refine c_ifN _ rfl (fun c7 => ?_) (fun c7 => ?_)
 ·refine q0 (l_p 1 tK rfl (q1 (c_ret (x_seqR (x_ret1 rfl rfl ?_)))))
  exact ⟨by rw [cl_false (fun e => by subst e; clear ih; first | simp_all | (rw [cl_true rfl] at *; simp_all))], hE⟩
 refine c_skip (x_seq (c_seq (q0 (l_p 1 tK rfl (q1 (c_blk ?_))))))
 have hop : t.op = s.op := by assumption
 have hnm : t.name = s.name := by assumption
 have hag : t.arg = s.arg := by assumption
 have hnn : t.n = s.n := by assumption
 have hhs : t.has = s.has := by clear ih; simp_all
 have han : t.ann = s.ann := cl_of (by clear ih; simp_all)
 have hll : t.kids.length = s.kids.length := by omega
 refine c_loop (X := Nat) (fun i => [(2, .pointer (some ⟨b1, 0, none⟩)), (3, .pointer (some ⟨b2, 0, none⟩)), (5, .int .i64 (i : Nat))]) (fun i w' => i ≤ t.kids.length ∧ t.kids.take i = s.kids.take i ∧ At M w' b1 0 [.int .u8 t.op, .string t.name, .string t.arg, .int .i64 t.n, .bool t.has, .int .u8 t.ann.op, .string t.ann.name, .int .i64 t.ann.n, akv, kv] ∧ At M w' b2 0 [.int .u8 s.op, .string s.name, .string s.arg, .int .i64 s.n, .bool s.has, .int .u8 s.ann.op, .string s.ann.name, .int .i64 s.ann.n, akvs, kvs] ∧ Sl M w' kv t.kids ∧ Sl M w' kvs s.kids ∧ Low M w' ∧ Below w.heap.size w w' ∧ w.heap.size ≤ w'.heap.size) (fun i => t.kids.length - i) (0) (s3 rfl rfl rfl) ?_ ?_
 ·exact ⟨Nat.zero_le _, rfl, h1, h2, hk, hks, hlow, hE, hB⟩
 clear h1 h2 ht hs ha has hk hks hlow hE hB
 rintro i w4 ⟨hi, htake, h1, h2, hk, hks, hlow, hE, hB⟩
 refine c_seq (q0 (l_p 2 tK rfl ?_))
 refine lC (o_ld tK (h1.cell 9 _ rfl) rfl rfl rfl rfl rfl ?_)
 refine lC (o_len tK hk rfl rfl rfl rfl rfl ?_)
 refine l_p 1 tK rfl (q1 ?_)
 refine c_ifP _ rfl (fun c8 => ?_) (fun c8 => ?_)
 ·refine c_skip (x_seq (c_seq (c_blk (c_seq ?_))))
  refine a_beg Ext rfl ?_
  intro w5 ew5
  replace hE := ew5.bl hE hB
  replace h1 := h1.ext ew5
  replace h2 := h2.ext ew5
  replace hk := hk.ext ew5
  replace hks := hks.ext ew5
  replace hlow := hlow.ext ew5
  replace hB := ew5.z hB
  have hS : Ext w5 w5 := ext_refl _
  have D_h1 := h1
  have D_h2 := h2
  have D_hk := hk
  have D_hks := hks
  refine a_p 0 tK rfl rfl rfl rfl (by kernel_rfl) (fun _ _ _ h => h) hS ?_
  refine a_ld 1 tK (fun _ hs => (D_h1.ext hs).cell 9 _ rfl) rfl rfl rfl rfl rfl rfl (by kernel_rfl) (fun _ _ _ h => h) hS ?_
  refine a_p 2 tK rfl rfl rfl rfl (by kernel_rfl) (fun _ _ _ h => h) hS ?_
  have hik : i < t.kids.length := by omega
  have hiks : i < s.kids.length := by omega
  refine a_ixS 3 tK D_hk (List.getElem?_eq_getElem hik) rfl rfl rfl rfl rfl rfl rfl rfl rfl rfl (by kernel_rfl) (fun _ _ _ _ h => h) hS ?_
  intro ebx eox eux hyx hatx
  obtain ⟨akvx, kvx, rfl, opx, nmx, agx, n64x, hax, hkx⟩ := tm_open hyx
  replace hatx : At M w5 ebx eox [.int .u8 t.kids[i].op, .string t.kids[i].name, .string t.kids[i].arg, .int .i64 t.kids[i].n, .bool t.kids[i].has, .int .u8 t.kids[i].ann.op, .string t.kids[i].ann.name, .int .i64 t.kids[i].ann.n, akvx, kvx] := hatx
  refine a_lds 4 tK (fun _ hs j v hv => (hatx.ext hs).cell j v hv) rfl rfl rfl rfl rfl rfl rfl (by kernel_rfl) (fun _ _ _ h => h) hS ?_
  refine a_p 5 tK rfl rfl rfl rfl (by kernel_rfl) (fun _ _ _ h => h) hS ?_
  refine a_ld 6 tK (fun _ hs => (D_h2.ext hs).cell 9 _ rfl) rfl rfl rfl rfl rfl rfl (by kernel_rfl) (fun _ _ _ h => h) hS ?_
  refine a_p 7 tK rfl rfl rfl rfl (by kernel_rfl) (fun _ _ _ h => h) hS ?_
  refine a_ixS 8 tK D_hks (List.getElem?_eq_getElem hiks) rfl rfl rfl rfl rfl rfl rfl rfl rfl rfl (by kernel_rfl) (fun _ _ _ _ h => h) hS ?_
  intro eby eoy euy hyy haty
  obtain ⟨akvy, kvy, rfl, opy, nmy, agy, n64y, hay, hky⟩ := tm_open hyy
  replace haty : At M w5 eby eoy [.int .u8 s.kids[i].op, .string s.kids[i].name, .string s.kids[i].arg, .int .i64 s.kids[i].n, .bool s.kids[i].has, .int .u8 s.kids[i].ann.op, .string s.kids[i].ann.name, .int .i64 s.kids[i].ann.n, akvy, kvy] := haty
  refine a_lds 9 tK (fun _ hs j v hv => (haty.ext hs).cell j v hv) rfl rfl rfl rfl rfl rfl rfl (by kernel_rfl) (fun _ _ _ h => h) hS ?_
  refine a_bar 10 rfl (by kernel_rfl) (by kernel_rfl) (o_call fo37 rfl rfl rfl (ih _ (List.getElem_mem hik) _ _ _ _ _ hyx hyy hlow) ?_)
  rintro _ w6 ⟨rfl, ew6⟩
  replace hS := hS.then ew6
  replace hE := ew6.bl hE hB
  replace h1 := h1.ext ew6
  replace h2 := h2.ext ew6
  replace hk := hk.ext ew6
  replace hks := hks.ext ew6
  replace hyx := Rep.ext hyx ew6
  replace hax := Rep.ext hax ew6
  replace hkx := hkx.ext ew6
  replace hatx := hatx.ext ew6
  replace hyy := Rep.ext hyy ew6
  replace hay := Rep.ext hay ew6
  replace hky := hky.ext ew6
  replace haty := haty.ext ew6
  replace hlow := hlow.ext ew6
  replace hB := ew6.z hB
  refine a_p 11 tK rfl rfl rfl rfl (by kernel_rfl) (fun _ _ _ h => h) hS ?_
  refine a_end (by kernel_rfl) ?_
  refine x_seq ?_
  refine c_ifB _ rfl (fun c9 => ?_) (fun c9 => ?_)
  ·refine q0 (l_p 1 tK rfl (q1 (c_ret (x_blkR (x_seqR (x_seqR (x_blkR (x_seqR (x_ret1 rfl rfl ?_)))))))))
   exact ⟨by rw [cl_false (fun e => by subst e; exact absurd rfl (cl_not c9))], hE⟩
  refine c_skip (x_blk (x_seq (c_reg (l_p 1 tK rfl ?_))))
  refine lC (o_ai rfl rfl rfl (by omega) rfl rfl ?_)
  refine l_p 1 tK rfl (l_nil ?_)
  exact x_round (i + 1) (s3 rfl rfl rfl) ⟨by omega, takeM_same hik hiks htake (cl_of (by simpa using c9)), h1, h2, hk, hks, hlow, hE, hB⟩ (by omega)
 refine c_exit (x_seqE (x_seqE (x_blkE (x_seq (q0 (l_p 1 tK rfl (q1 (c_ret (x_ret1 rfl rfl ?_)))))))))
 exact ⟨by rw [cl_true (Tm.ext' hop hnm hag hnn hhs han (takeM_full (by omega) hll htake))], hE⟩
end Go.Proofs.Ytohfnpmehgpphaa
namespace Rw
def dT (k : Bool) (l : List UInt8) : Option (ByteArray × Nat) := bif k then tkT l else some (⟨#[]⟩, 0)
/-- All its ops are ops. -/
def okT (t : Ty) : Prop := ∀ x ∈ partsL t, kidsOf x.op ≠ none
theorem kcnt_size {c : UInt8} {s : ByteArray} (h : kidsOf c.toNat = some s) : s.size = kcnt c := by
  unfold kidsOf at h
  unfold kcnt
  repeat' split at h
  all_goals (first | cases h | skip)
  · rw [if_neg (by omega), if_neg (by omega)]; rfl
  · rw [if_pos (by omega)]; rfl
  · rw [if_neg (by omega), if_pos (by omega)]; rfl
  · rw [if_pos (by omega)]; rfl
/-! ## Expressions -/
def d1 (p : ByteArray) (l : List UInt8) : Option (ByteArray × Nat) := dT (hasB p 110 || hasB p 111) l
theorem parts_prt {op : Int} (h : partsS op ≠ ⟨#[]⟩) : (prt op).1 = (hasB (partsS op) 110 || hasB (partsS op) 111) ∧ (prt op).2.1 = hasB (partsS op) 97 ∧ (prt op).2.2.1 = (hasB (partsS op) 105 || hasB (partsS op) 98) ∧
    decide ((prt op).2.2.2 = 1) = hasB (partsS op) 116 ∧ decide ((prt op).2.2.2 = 2) = hasB (partsS op) 84 ∧ decide (cnt op < 0) = decide (op = 48) ∧ (op ≠ 48 → (cnt op).toNat = countE (partsS op)) := by
  have h' : ¬ (op < 32 ∨ 52 ≤ op) := fun e => h (by unfold partsS; rw [if_pos e])
  rcases op_cases h' with e | e | e | e | e | e | e | e | e | e | e | e | e | e | e | e | e | e | e | e <;> subst e <;> exact ⟨by decide, by decide, by decide, by decide, by decide, by decide, by decide⟩
/-- Its ops are ops, those of its annotations, too. -/
def okM (t : Tm) : Prop := ∀ x ∈ nodesL t, partsS x.op ≠ ⟨#[]⟩ ∧ (x.has = true → okT x.ann)
/-! ## On the way -/
/-! ## The whole -/
theorem okT_shape (t : Ty) : ∀ c, shapeF t c = true → okT t := by
  refine Ty.ind (p := fun t => ∀ c, shapeF t c = true → okT t) (fun t ih => ?_) t
  intro c h x hx
  obtain ⟨ks, hk, hl, hall, _⟩ := shape_pos h
  rw [partsL_eq] at hx
  rcases List.mem_cons.1 hx with rfl | hx
  · rw [hk]; simp
  · obtain ⟨k, hkm, hxk⟩ := List.mem_flatMap.1 hx
    obtain ⟨j, hj, rfl⟩ := List.getElem_of_mem hkm
    have hjd : j < ks.data.size := by rw [hl] at hj; exact hj
    exact ih _ hkm _ (hall j _ _ (List.getElem?_eq_getElem hj) (Array.getElem?_eq_getElem hjd)) x hxk
theorem okT_either {t : Ty} (h : (rightB t || rowB t) = true) : okT t := by
  unfold rightB rowB at h
  simp only [Bool.or_eq_true, Bool.and_eq_true] at h
  rcases h with h | h
  · exact okT_shape t _ h.1
  · exact okT_shape t _ h.1
theorem okM_right (t : Tm) : ∀ arm, rightT t arm = true → okM t := by
  refine Tm.ind (p := fun t => ∀ arm, rightT t arm = true → okM t) (fun t ih => ?_) t
  intro arm h x hx
  rw [rightT_eq] at h
  simp only [Bool.and_eq_true] at h
  obtain ⟨hh, hk⟩ := h
  have hall : ∀ (l : List Tm) (i : Nat), kidsT t.op i (kidL l) = true → ∀ k ∈ l, ∃ b, rightT k b = true := by
    intro l
    induction l with
    | nil => intro i _ k hk; cases hk
    | cons y l ihl =>
      intro i h k hk
      have h' : kidsT t.op i ((y.op, rightT y) :: kidL l) = true := h
      rw [kidsT] at h'
      simp only [Bool.and_eq_true] at h'
      rcases List.mem_cons.1 hk with rfl | hk
      · exact ⟨_, h'.2.1⟩
      · exact ihl _ h'.2.2 k hk
  rw [nodesL_eq] at hx
  rcases List.mem_cons.1 hx with rfl | hx
  · unfold headT at hh
    simp only [Bool.and_eq_true] at hh
    have hv : ¬ (x.op < 32 ∨ 52 ≤ x.op) := fun e => by rw [shp_no e] at hh; exact absurd hh.1 (by simp)
    refine ⟨(shp_parts hv).2.1, fun hb => ?_⟩
    have hn := hh.2.2.2.1
    unfold notedB at hn
    rw [hb] at hn
    simp only [cond_true, Bool.and_eq_true] at hn
    exact okT_either (by rw [hn.2.1]; rfl)
  · obtain ⟨k, hkm, hxk⟩ := List.mem_flatMap.1 hx
    obtain ⟨b, hb⟩ := hall _ _ hk k hkm
    exact ih k hkm b hb x hxk
end Rw
namespace Go.Proofs.Ytohfnpmehgpphaa
open Go Rw Go.RowKit
set_option maxRecDepth 100000
theorem _root_.Rw.okM.kid {t k : Tm} (h : okM t) (hk : k ∈ t.kids) : okM k := fun x hx => h x (by rw [nodesL_eq]; exact List.mem_cons_of_mem _ (List.mem_flatMap.2 ⟨k, hk, hx⟩))
theorem numR_spec (n : Nat) (hn : n < 18446744073709551616) (M : Nat → Prop) (w : World) (hlow : Low M w) :
  Calls Try.prog 72 #[.int .u64 (n : Int)] w (Ret fun r w' => Sl M w' r (numY n) ∧ Ext w w') :=
 (numR_own n hn w.heap.size M w hlow (Nat.le_refl _)).mono (Ret.mono fun r w' h => let ⟨_, h1, h2⟩ := h; ⟨h1.sl (by have := numY_len n; omega) hlow h2.sub, h2.below⟩)
theorem typeR_spec : ∀ (t : Ty) (M : Nat → Prop) (w : World) (v : Value), Rep.R M w v t → Low M w → (typeB t).length ≤ 999999997000 → Calls Try.prog 46 #[v] w (Ret fun r w' => Sl M w' r (typeB t) ∧ Ext w w') := by
 refine Ty.ind fun t ih => ?_
 intro M w v ht hlow0 hl
 have hlow := hlow0
 have hB : w.heap.size ≤ w.heap.size := Nat.le_refl _
 have hE : Below w.heap.size w w := Below.refl _ _
 have hsub : ∀ b, M b → M b := fun _ h => h
 obtain ⟨kv, rfl, op, nm, n64, hk⟩ := ty_open ht
 have hlt := hk.lt
 have hle := congrArg List.length (typeB_eq t)
 rw [List.length_append] at hle
 refine c_enter (n := 46) Try.func46 rfl rfl rfl ?_
 refine q0 ?_
 refine lC (o_box rfl rfl rfl ?_)
 intro b1 w1 hb_b1 ew1 h1
 replace h1 : Box _ b1 40 [.int .u8 t.op, .string t.name, .int .i64 t.n, kv] := h1
 replace h1 := h1.at (nM_of hlow hb_b1)
 replace hE := ew1.bl hE hB
 replace ht := Rep.ext ht ew1
 replace hk := hk.ext ew1
 replace hlow := hlow.ext ew1
 replace hB := ew1.z hB
 refine l_p 1 tK rfl (q1 (q0 (l_p 1 tK rfl ?_)))
 refine lC (o_ld tK (h1.cell 0 _ rfl) rfl rfl rfl rfl rfl ?_)
 refine lC (o_bs tK rfl rfl rfl rfl rfl rfl rfl (sz1 rfl) rfl rfl rfl ?_)
 intro bw2 w2 qbw2 ew2 hbw2
 have sw2 := Stp.add ew2 hlow hB (Nat.le_of_eq qbw2.symm) hbw2.lt
 have le_bw2 := hB
 replace hE := hE.trans sw2.below
 replace ht := Rep.stp ht sw2
 replace hk := hk.stp sw2
 replace h1 := h1.stp sw2
 replace hsub := sw2.sb hsub
 replace hlow := sw2.low
 replace hB := sw2.z hB
 have ho := own_litS sw2 hbw2 (show Rs _ _ [_] [UInt8.ofNat t.op.toNat] from ⟨op_byte op, trivial⟩) qbw2 le_bw2 (by simp [maxLen])
 refine l_p 1 tK rfl (q1 ?_)
 refine c_cut2 (X := Value) (Y := Nat → Prop) (fun v M1 => [(1, .pointer (some ⟨b1, 0, none⟩)), (3, v)]) (fun v M1 w' => OwnSl 5 w.heap.size M1 w' v ([UInt8.ofNat t.op.toNat] ++ (if t.op = 7 ∨ t.op = 10 then numY (u64 t.n) else [])) ∧ At M1 w' b1 0 [.int .u8 t.op, .string t.name, .int .i64 t.n, kv] ∧ Sl M1 w' kv t.kids ∧ Low M1 w' ∧ (∀ b, M b → M1 b) ∧ Below w.heap.size w w' ∧ w.heap.size ≤ w'.heap.size) ?_ ?_
 ·refine q0 (l_p 1 tK rfl ?_)
  refine lC (o_ld tK (h1.cell 0 _ rfl) rfl rfl rfl rfl rfl ?_)
  refine l_p 2 tK rfl ?_
  refine l_splitP 11 _ rfl (fun c1 => ?_) (fun c1 => ?_)
  ·refine l_p 4 tK rfl (q1 (c_ifT rfl (c_reg (l_p 2 tK rfl ?_))))
   refine lC (o_ld tK (h1.cell 2 _ rfl) rfl rfl rfl rfl rfl ?_)
   refine lC (o_conv tK rfl rfl rfl rfl rfl (wrap_u64 _) rfl rfl ?_)
   refine lC (o_call fo72 rfl rfl rfl (numR_spec (u64 t.n) (u64_lt _) _ _ hlow) ?_)
   rintro vhx w3 ⟨hx, ew3⟩
   replace ho := ho.ext hlow hB ew3
   replace hE := ew3.bl hE hB
   replace ht := Rep.ext ht ew3
   replace hk := hk.ext ew3
   replace h1 := h1.ext ew3
   replace hlow := hlow.ext ew3
   replace hB := ew3.z hB
   have hnl := numY_len (u64 t.n)
   refine lC (o_app tK ho hx hlow hB rfl rfl rfl rfl rfl rfl rfl (by first | (simp only [List.length_append, List.length_cons, List.length_nil]; omega) | omega) (by show (_ + _) * 1 ≤ _; first | (simp only [List.length_append, List.length_cons, List.length_nil]; omega) | omega) rfl rfl ?_)
   intro vw4 w4 Mw4 hw4 sw4 frw4 blw4
   replace hE := hE.trans sw4.below
   replace ht := Rep.stp ht sw4
   replace hk := hk.stp sw4
   replace h1 := h1.stp sw4
   replace hx := hx.stp sw4
   replace hsub := sw4.sb hsub
   replace hlow := sw4.low
   replace hB := sw4.z hB
   replace ho := hw4
   clear hw4
   refine l_p 1 tK rfl (l_nil ?_)
   exact x_cut2 (vw4) (Mw4) (s2 rfl rfl) ⟨by rw [if_pos (by omega)]; exact ho, h1, hk, hlow, hsub, hE, hB⟩
  refine l_p 1 tK rfl ?_
  refine lC (o_ld tK (h1.cell 0 _ rfl) rfl rfl rfl rfl rfl ?_)
  refine l_p 2 tK rfl (q1 ?_)
  refine c_ifP _ rfl (fun c2 => ?_) (fun c2 => ?_)
  ·refine c_reg (l_p 2 tK rfl ?_)
   refine lC (o_ld tK (h1.cell 2 _ rfl) rfl rfl rfl rfl rfl ?_)
   refine lC (o_conv tK rfl rfl rfl rfl rfl (wrap_u64 _) rfl rfl ?_)
   refine lC (o_call fo72 rfl rfl rfl (numR_spec (u64 t.n) (u64_lt _) _ _ hlow) ?_)
   rintro vhx w5 ⟨hx, ew5⟩
   replace ho := ho.ext hlow hB ew5
   replace hE := ew5.bl hE hB
   replace ht := Rep.ext ht ew5
   replace hk := hk.ext ew5
   replace h1 := h1.ext ew5
   replace hlow := hlow.ext ew5
   replace hB := ew5.z hB
   have hnl := numY_len (u64 t.n)
   refine lC (o_app tK ho hx hlow hB rfl rfl rfl rfl rfl rfl rfl (by first | (simp only [List.length_append, List.length_cons, List.length_nil]; omega) | omega) (by show (_ + _) * 1 ≤ _; first | (simp only [List.length_append, List.length_cons, List.length_nil]; omega) | omega) rfl rfl ?_)
   intro vw6 w6 Mw6 hw6 sw6 frw6 blw6
   replace hE := hE.trans sw6.below
   replace ht := Rep.stp ht sw6
   replace hk := hk.stp sw6
   replace h1 := h1.stp sw6
   replace hx := hx.stp sw6
   replace hsub := sw6.sb hsub
   replace hlow := sw6.low
   replace hB := sw6.z hB
   replace ho := hw6
   clear hw6
   refine l_p 1 tK rfl (l_nil ?_)
   exact x_cut2 (vw6) (Mw6) (s2 rfl rfl) ⟨by rw [if_pos (by omega)]; exact ho, h1, hk, hlow, hsub, hE, hB⟩
  refine c_skip ?_
  exact x_cut2 (.slice (some ⟨bw2, 0, none⟩) 1 1) ((Rw.Add M bw2)) (s2 rfl rfl) ⟨by rw [if_neg (by omega), List.append_nil]; exact ho, h1, hk, hlow, hsub, hE, hB⟩
 clear ho h1 hk hlow hsub hE hB ht
 rintro v M1 w84 ⟨ho, h1, hk, hlow, hsub, hE, hB⟩
 refine c_cut2 (X := Value) (Y := Nat → Prop) (fun v M1 => [(1, .pointer (some ⟨b1, 0, none⟩)), (3, v)]) (fun v M1 w' => OwnSl 5 w.heap.size M1 w' v (headY t.op t.name t.n) ∧ At M1 w' b1 0 [.int .u8 t.op, .string t.name, .int .i64 t.n, kv] ∧ Sl M1 w' kv t.kids ∧ Low M1 w' ∧ (∀ b, M b → M1 b) ∧ Below w.heap.size w w' ∧ w.heap.size ≤ w'.heap.size) ?_ ?_
 ·refine q0 (l_p 1 tK rfl ?_)
  refine lC (o_ld tK (h1.cell 0 _ rfl) rfl rfl rfl rfl rfl ?_)
  refine l_p 1 tK rfl (q1 ?_)
  refine c_ifP _ rfl (fun c3 => ?_) (fun c3 => ?_)
  ·refine c_reg (l_p 2 tK rfl ?_)
   refine lC (o_ld tK (h1.cell 1 _ rfl) rfl rfl rfl rfl rfl ?_)
   have htx : (headY t.op t.name t.n).length = (textB t.name).length + 1 := by rw [headY, if_neg (by omega), if_pos (by omega)]; rfl
   have htz := textB_size t.name
   refine lC (o_call fo30 rfl rfl rfl (textR_spec t.name (by omega) _ _ hlow) ?_)
   rintro vhx w7 ⟨hx, ew7⟩
   replace ho := ho.ext hlow hB ew7
   replace hE := ew7.bl hE hB
   replace h1 := h1.ext ew7
   replace hk := hk.ext ew7
   replace hlow := hlow.ext ew7
   replace hB := ew7.z hB
   have hN : (if t.op = 7 ∨ t.op = 10 then numY (u64 t.n) else []) = [] := if_neg (by omega)
   rw [hN, List.append_nil] at ho
   have hnl := numY_len (u64 t.n)
   refine lC (o_app tK ho hx hlow hB rfl rfl rfl rfl rfl rfl rfl (by first | (simp only [List.length_append, List.length_cons, List.length_nil]; omega) | omega) (by show (_ + _) * 1 ≤ _; first | (simp only [List.length_append, List.length_cons, List.length_nil]; omega) | omega) rfl rfl ?_)
   intro vw8 w8 Mw8 hw8 sw8 frw8 blw8
   replace hE := hE.trans sw8.below
   replace h1 := h1.stp sw8
   replace hk := hk.stp sw8
   replace hx := hx.stp sw8
   replace hsub := sw8.sb hsub
   replace hlow := sw8.low
   replace hB := sw8.z hB
   replace ho := hw8
   clear hw8
   refine l_p 1 tK rfl (l_nil ?_)
   exact x_cut2 (vw8) (Mw8) (s2 rfl rfl) ⟨by rw [headY, if_neg (by omega), if_pos (by omega)]; exact ho, h1, hk, hlow, hsub, hE, hB⟩
  refine c_skip ?_
  have hH : headY t.op t.name t.n = [UInt8.ofNat t.op.toNat] ++ (if t.op = 7 ∨ t.op = 10 then numY (u64 t.n) else []) := by
   rw [headY]
   by_cases h7 : t.op = 7 ∨ t.op = 10
   ·rw [if_pos h7, if_pos h7]; rfl
   ·rw [if_neg h7, if_neg h7, if_neg (by omega)]; rfl
  exact x_cut2 (v) (M1) (s2 rfl rfl) ⟨by rw [hH]; exact ho, h1, hk, hlow, hsub, hE, hB⟩
 clear ho h1 hk hlow hsub hE hB
 rintro v M1 w86 ⟨ho, h1, hk, hlow, hsub, hE, hB⟩
 refine c_seq (q0 (l_p 1 tK rfl (q1 (c_blk ?_))))
 refine c_loop3 (X := Nat) (Y := Value) (Z := Nat → Prop) (fun i v M1 => [(1, .pointer (some ⟨b1, 0, none⟩)), (3, v), (4, .int .i64 (i : Nat))]) (fun i v M1 w' => i ≤ t.kids.length ∧ OwnSl 5 w.heap.size M1 w' v (headY t.op t.name t.n ++ (t.kids.take i).flatMap typeB) ∧ At M1 w' b1 0 [.int .u8 t.op, .string t.name, .int .i64 t.n, kv] ∧ Sl M1 w' kv t.kids ∧ Low M1 w' ∧ (∀ b, M b → M1 b) ∧ Below w.heap.size w w' ∧ w.heap.size ≤ w'.heap.size) (fun i v M1 => t.kids.length - i) (0) (v) (M1) (s3 rfl rfl rfl) ?_ ?_
 ·exact ⟨Nat.zero_le _, by simpa using ho, h1, hk, hlow, hsub, hE, hB⟩
 clear ho h1 hk hlow hsub hE hB
 rintro i v M1 w9 ⟨hi, ho, h1, hk, hlow, hsub, hE, hB⟩
 have hft := flat_take_len (f := typeB) (l := t.kids) i
 refine c_seq (q0 (l_p 2 tK rfl ?_))
 refine lC (o_ld tK (h1.cell 3 _ rfl) rfl rfl rfl rfl rfl ?_)
 refine lC (o_len tK hk rfl rfl rfl rfl rfl ?_)
 refine l_p 1 tK rfl (q1 ?_)
 refine c_ifP _ rfl (fun c4 => ?_) (fun c4 => ?_)
 ·refine c_skip (x_seq (c_seq (c_blk (c_reg (l_p 2 tK rfl ?_)))))
  refine lC (o_ld tK (h1.cell 3 _ rfl) rfl rfl rfl rfl rfl ?_)
  refine l_p 1 tK rfl ?_
  have hik : i < t.kids.length := by omega
  have hf1 := flat_take_len (f := typeB) (l := t.kids) (i + 1)
  rw [flat_step hik, List.length_append] at hf1
  refine lC (o_ixS tK hk (List.getElem?_eq_getElem hik) rfl rfl rfl rfl rfl rfl rfl rfl rfl ?_)
  intro ebx eox eux hyx hatx
  obtain ⟨kvx, rfl, opx, nmx, n64x, hkx⟩ := ty_open hyx
  replace hatx : At M1 w9 ebx eox [.int .u8 t.kids[i].op, .string t.kids[i].name, .int .i64 t.kids[i].n, kvx] := hatx
  refine lC (o_lds tK (fun j v hv => hatx.cell j v hv) rfl rfl rfl rfl rfl rfl ?_)
  refine lC (o_call fo46 rfl rfl rfl (ih _ (List.getElem_mem hik) _ _ _ hyx hlow (by omega)) ?_)
  rintro vhx w10 ⟨hx, ew10⟩
  replace ho := ho.ext hlow hB ew10
  replace hE := ew10.bl hE hB
  replace h1 := h1.ext ew10
  replace hk := hk.ext ew10
  replace hyx := Rep.ext hyx ew10
  replace hkx := hkx.ext ew10
  replace hatx := hatx.ext ew10
  replace hlow := hlow.ext ew10
  replace hB := ew10.z hB
  refine lC (o_app tK ho hx hlow hB rfl rfl rfl rfl rfl rfl rfl (by simp only [List.length_append]; omega) (by show (_ + _) * 1 ≤ _; simp only [List.length_append]; omega) rfl rfl ?_)
  intro vw11 w11 Mw11 hw11 sw11 frw11 blw11
  replace hE := hE.trans sw11.below
  replace h1 := h1.stp sw11
  replace hk := hk.stp sw11
  replace hyx := Rep.stp hyx sw11
  replace hkx := hkx.stp sw11
  replace hatx := hatx.stp sw11
  replace hx := hx.stp sw11
  replace hsub := sw11.sb hsub
  replace hlow := sw11.low
  replace hB := sw11.z hB
  replace ho := hw11
  clear hw11
  refine l_p 1 tK rfl (q2 (x_seq (c_reg (l_p 1 tK rfl ?_))))
  refine lC (o_ai rfl rfl rfl (by omega) rfl rfl ?_)
  refine l_p 1 tK rfl (l_nil ?_)
  exact x_round3 (i + 1) (vw11) (Mw11) (s3 rfl rfl (get_num rfl (by omega))) ⟨by omega, by rw [flat_step hik, ← List.append_assoc]; exact ho, h1, hk, hlow, hsub, hE, hB⟩ (by omega)
 refine c_exit (x_seqE (x_seqE (x_blkE (x_seq (q0 (l_p 2 tK rfl (q1 (c_ret (x_ret1 rfl rfl ?_)))))))))
 obtain rfl : i = t.kids.length := by omega
 rw [List.take_of_length_le (Nat.le_refl _), ← typeB_eq] at ho
 exact ⟨ho.sl (by omega) hlow0 hsub, hE⟩
theorem termR_spec : ∀ (t : Tm) (M : Nat → Prop) (w : World) (v : Value), Rep.R M w v t → Low M w → okM t → (termB t).length ≤ 999999996000 → Calls Try.prog 44 #[v] w (Ret fun r w' => Sl M w' r (termB t) ∧ Ext w w') := by
 refine Tm.ind fun t ih => ?_
 intro M w v ht hlow0 hok hl
 have hlow := hlow0
 have hB : w.heap.size ≤ w.heap.size := Nat.le_refl _
 have hE : Below w.heap.size w w := Below.refl _ _
 have hsub : ∀ b, M b → M b := fun _ h => h
 obtain ⟨akv, kv, rfl, op, nm, ag, n64, ha, hk⟩ := tm_open ht
 have hlt := hk.lt
 have hle := congrArg List.length (termB_eq t)
 rw [List.length_append, headE] at hle
 simp only [List.length_append] at hle
 have hps := (hok t (by rw [nodesL_eq]; exact List.mem_cons_self)).1
 obtain ⟨y1, y2, y3, y4, _, y6, _⟩ := parts_prt hps
 have hpz := partsS_size t.op
 refine c_enter (n := 85) Try.func44 rfl rfl rfl ?_
 refine q0 ?_
 refine lC (o_box rfl rfl rfl ?_)
 intro b1 w1 hb_b1 ew1 h1
 replace h1 : Box _ b1 84 [.int .u8 t.op, .string t.name, .string t.arg, .int .i64 t.n, .bool t.has, .int .u8 t.ann.op, .string t.ann.name, .int .i64 t.ann.n, akv, kv] := h1
 replace h1 := h1.at (nM_of hlow hb_b1)
 replace hE := ew1.bl hE hB
 replace ht := Rep.ext ht ew1
 replace ha := Rep.ext ha ew1
 replace hk := hk.ext ew1
 replace hlow := hlow.ext ew1
 replace hB := ew1.z hB
 refine l_p 1 tK rfl (q1 (q0 (l_p 1 tK rfl ?_)))
 refine lC (o_ld tK (h1.cell 0 _ rfl) rfl rfl rfl rfl rfl ?_)
 refine lC (o_bs tK rfl rfl rfl rfl rfl rfl rfl (sz1 rfl) rfl rfl rfl ?_)
 intro bw2 w2 qbw2 ew2 hbw2
 have sw2 := Stp.add ew2 hlow hB (Nat.le_of_eq qbw2.symm) hbw2.lt
 have le_bw2 := hB
 replace hE := hE.trans sw2.below
 replace ht := Rep.stp ht sw2
 replace ha := Rep.stp ha sw2
 replace hk := hk.stp sw2
 replace h1 := h1.stp sw2
 replace hsub := sw2.sb hsub
 replace hlow := sw2.low
 replace hB := sw2.z hB
 have ho := own_litS sw2 hbw2 (show Rs _ _ [_] [UInt8.ofNat t.op.toNat] from ⟨op_byte op, trivial⟩) qbw2 le_bw2 (by simp [maxLen])
 refine l_p 1 tK rfl (q1 (q0 (l_p 1 tK rfl ?_)))
 refine lC (o_ld tK (h1.cell 0 _ rfl) rfl rfl rfl rfl rfl ?_)
 refine lC (o_call fo84 rfl rfl rfl (partsS_spec t.op op _ _ hlow) ?_)
 rintro _ w3 ⟨rfl, ew3⟩
 replace ho := ho.ext hlow hB ew3
 replace hE := ew3.bl hE hB
 replace ht := Rep.ext ht ew3
 replace ha := Rep.ext ha ew3
 replace hk := hk.ext ew3
 replace h1 := h1.ext ew3
 replace hlow := hlow.ext ew3
 replace hB := ew3.z hB
 refine l_p 1 tK rfl (q1 ?_)
 refine c_cut2 (X := Value) (Y := Nat → Prop) (fun v M1 => [(1, .pointer (some ⟨b1, 0, none⟩)), (3, v), (4, .string (partsS t.op))]) (fun v M1 w' => OwnSl 5 w.heap.size M1 w' v (o1 t.op t.name) ∧ At M1 w' b1 0 [.int .u8 t.op, .string t.name, .string t.arg, .int .i64 t.n, .bool t.has, .int .u8 t.ann.op, .string t.ann.name, .int .i64 t.ann.n, akv, kv] ∧ Rep.R M1 w' (.agg #[.int .u8 t.ann.op, .string t.ann.name, .int .i64 t.ann.n, akv]) t.ann ∧ Sl M1 w' kv t.kids ∧ Low M1 w' ∧ (∀ b, M b → M1 b) ∧ Below w.heap.size w w' ∧ w.heap.size ≤ w'.heap.size) ?_ ?_
 ·refine q0 (l_p 1 tK rfl ?_)
  refine lC (o_call fo86 rfl rfl rfl (hasC_spec _ (by omega) 110 _) ?_)
  rintro _ _ ⟨rfl, rfl⟩
  refine l_p 1 tK rfl ?_
  refine l_split 14 _ rfl (fun c1 => ?_) (fun c1 => ?_)
  ·refine l_p 3 tK rfl (q1 (c_ifT rfl (c_reg (l_p 2 tK rfl ?_))))
   refine lC (o_ld tK (h1.cell 1 _ rfl) rfl rfl rfl rfl rfl ?_)
   have hb0 : (prt t.op).1 = true := by rw [y1]; simp_all
   have e1 : (o1 t.op t.name).length = (textB t.name).length + 1 := by rw [o1, hb0]; rfl
   have ez := textB_size t.name
   refine lC (o_call fo30 rfl rfl rfl (textR_spec t.name (by omega) _ _ hlow) ?_)
   rintro vhx w4 ⟨hx, ew4⟩
   replace ho := ho.ext hlow hB ew4
   replace hE := ew4.bl hE hB
   replace ht := Rep.ext ht ew4
   replace ha := Rep.ext ha ew4
   replace hk := hk.ext ew4
   replace h1 := h1.ext ew4
   replace hlow := hlow.ext ew4
   replace hB := ew4.z hB
   refine lC (o_app tK ho hx hlow hB rfl rfl rfl rfl rfl rfl rfl (by first | (simp only [List.length_append, List.length_cons, List.length_nil]; omega) | omega) (by show (_ + _) * 1 ≤ _; first | (simp only [List.length_append, List.length_cons, List.length_nil]; omega) | omega) rfl rfl ?_)
   intro vw5 w5 Mw5 hw5 sw5 frw5 blw5
   replace hE := hE.trans sw5.below
   replace ht := Rep.stp ht sw5
   replace ha := Rep.stp ha sw5
   replace hk := hk.stp sw5
   replace h1 := h1.stp sw5
   replace hx := hx.stp sw5
   replace hsub := sw5.sb hsub
   replace hlow := sw5.low
   replace hB := sw5.z hB
   replace ho := hw5
   clear hw5
   refine l_p 1 tK rfl (l_nil ?_)
   have hb : (prt t.op).1 = true := by rw [y1]; simp_all
   exact x_cut2 (vw5) (Mw5) (s3 rfl rfl rfl) ⟨by rw [o1, hb, cond_true]; exact ho, h1, ha, hk, hlow, hsub, hE, hB⟩
  refine l_p 1 tK rfl ?_
  refine lC (o_call fo86 rfl rfl rfl (hasC_spec _ (by omega) 111 _) ?_)
  rintro _ _ ⟨rfl, rfl⟩
  refine l_p 1 tK rfl (q1 ?_)
  refine c_if _ rfl (fun c2 => ?_) (fun c2 => ?_)
  ·refine c_reg (l_p 2 tK rfl ?_)
   refine lC (o_ld tK (h1.cell 1 _ rfl) rfl rfl rfl rfl rfl ?_)
   have hb0 : (prt t.op).1 = true := by rw [y1]; simp_all
   have e1 : (o1 t.op t.name).length = (textB t.name).length + 1 := by rw [o1, hb0]; rfl
   have ez := textB_size t.name
   refine lC (o_call fo30 rfl rfl rfl (textR_spec t.name (by omega) _ _ hlow) ?_)
   rintro vhx w6 ⟨hx, ew6⟩
   replace ho := ho.ext hlow hB ew6
   replace hE := ew6.bl hE hB
   replace ht := Rep.ext ht ew6
   replace ha := Rep.ext ha ew6
   replace hk := hk.ext ew6
   replace h1 := h1.ext ew6
   replace hlow := hlow.ext ew6
   replace hB := ew6.z hB
   refine lC (o_app tK ho hx hlow hB rfl rfl rfl rfl rfl rfl rfl (by first | (simp only [List.length_append, List.length_cons, List.length_nil]; omega) | omega) (by show (_ + _) * 1 ≤ _; first | (simp only [List.length_append, List.length_cons, List.length_nil]; omega) | omega) rfl rfl ?_)
   intro vw7 w7 Mw7 hw7 sw7 frw7 blw7
   replace hE := hE.trans sw7.below
   replace ht := Rep.stp ht sw7
   replace ha := Rep.stp ha sw7
   replace hk := hk.stp sw7
   replace h1 := h1.stp sw7
   replace hx := hx.stp sw7
   replace hsub := sw7.sb hsub
   replace hlow := sw7.low
   replace hB := sw7.z hB
   replace ho := hw7
   clear hw7
   refine l_p 1 tK rfl (l_nil ?_)
   have hb : (prt t.op).1 = true := by rw [y1]; simp_all
   exact x_cut2 (vw7) (Mw7) (s3 rfl rfl rfl) ⟨by rw [o1, hb, cond_true]; exact ho, h1, ha, hk, hlow, hsub, hE, hB⟩
  refine c_skip ?_
  have hb : (prt t.op).1 = false := by rw [y1]; simp_all
  exact x_cut2 (.slice (some ⟨bw2, 0, none⟩) 1 1) ((Rw.Add M bw2)) (s3 rfl rfl rfl) ⟨by rw [o1, hb]; exact ho, h1, ha, hk, hlow, hsub, hE, hB⟩
 clear ho h1 ha hk hlow hsub hE hB ht
 rintro v M1 w81 ⟨ho, h1, ha, hk, hlow, hsub, hE, hB⟩
 refine c_cut2 (X := Value) (Y := Nat → Prop) (fun v M1 => [(1, .pointer (some ⟨b1, 0, none⟩)), (3, v), (4, .string (partsS t.op))]) (fun v M1 w' => OwnSl 5 w.heap.size M1 w' v (o1 t.op t.name ++ o2 t.op t.arg) ∧ At M1 w' b1 0 [.int .u8 t.op, .string t.name, .string t.arg, .int .i64 t.n, .bool t.has, .int .u8 t.ann.op, .string t.ann.name, .int .i64 t.ann.n, akv, kv] ∧ Rep.R M1 w' (.agg #[.int .u8 t.ann.op, .string t.ann.name, .int .i64 t.ann.n, akv]) t.ann ∧ Sl M1 w' kv t.kids ∧ Low M1 w' ∧ (∀ b, M b → M1 b) ∧ Below w.heap.size w w' ∧ w.heap.size ≤ w'.heap.size) ?_ ?_
 ·refine q0 (l_p 1 tK rfl ?_)
  refine lC (o_call fo86 rfl rfl rfl (hasC_spec _ (by omega) 97 _) ?_)
  rintro _ _ ⟨rfl, rfl⟩
  refine q1 ?_
  refine c_if _ rfl (fun c3 => ?_) (fun c3 => ?_)
  ·refine c_reg (l_p 2 tK rfl ?_)
   refine lC (o_ld tK (h1.cell 2 _ rfl) rfl rfl rfl rfl rfl ?_)
   have hb0 : (prt t.op).2.1 = true := by rw [y2]; simp_all
   have e1 : (o2 t.op t.arg).length = (textB t.arg).length := by rw [o2, hb0]; rfl
   have ez := textB_size t.arg
   refine lC (o_call fo30 rfl rfl rfl (textR_spec t.arg (by omega) _ _ hlow) ?_)
   rintro vhx w8 ⟨hx, ew8⟩
   replace ho := ho.ext hlow hB ew8
   replace hE := ew8.bl hE hB
   replace h1 := h1.ext ew8
   replace ha := Rep.ext ha ew8
   replace hk := hk.ext ew8
   replace hlow := hlow.ext ew8
   replace hB := ew8.z hB
   refine lC (o_app tK ho hx hlow hB rfl rfl rfl rfl rfl rfl rfl (by first | (simp only [List.length_append, List.length_cons, List.length_nil]; omega) | omega) (by show (_ + _) * 1 ≤ _; first | (simp only [List.length_append, List.length_cons, List.length_nil]; omega) | omega) rfl rfl ?_)
   intro vw9 w9 Mw9 hw9 sw9 frw9 blw9
   replace hE := hE.trans sw9.below
   replace h1 := h1.stp sw9
   replace ha := Rep.stp ha sw9
   replace hk := hk.stp sw9
   replace hx := hx.stp sw9
   replace hsub := sw9.sb hsub
   replace hlow := sw9.low
   replace hB := sw9.z hB
   replace ho := hw9
   clear hw9
   refine l_p 1 tK rfl (l_nil ?_)
   have hb : (prt t.op).2.1 = true := by rw [y2]; simp_all
   exact x_cut2 (vw9) (Mw9) (s3 rfl rfl rfl) ⟨by rw [o2, hb]; exact ho, h1, ha, hk, hlow, hsub, hE, hB⟩
  refine c_skip ?_
  have hb : (prt t.op).2.1 = false := by rw [y2]; simp_all
  exact x_cut2 (v) (M1) (s3 rfl rfl rfl) ⟨by rw [o2, hb, cond_false, List.append_nil]; exact ho, h1, ha, hk, hlow, hsub, hE, hB⟩
 clear ho h1 ha hk hlow hsub hE hB
 rintro v M1 w82 ⟨ho, h1, ha, hk, hlow, hsub, hE, hB⟩
 refine c_cut2 (X := Value) (Y := Nat → Prop) (fun v M1 => [(1, .pointer (some ⟨b1, 0, none⟩)), (3, v), (4, .string (partsS t.op))]) (fun v M1 w' => OwnSl 5 w.heap.size M1 w' v (o1 t.op t.name ++ o2 t.op t.arg ++ o3 t.op t.n) ∧ At M1 w' b1 0 [.int .u8 t.op, .string t.name, .string t.arg, .int .i64 t.n, .bool t.has, .int .u8 t.ann.op, .string t.ann.name, .int .i64 t.ann.n, akv, kv] ∧ Rep.R M1 w' (.agg #[.int .u8 t.ann.op, .string t.ann.name, .int .i64 t.ann.n, akv]) t.ann ∧ Sl M1 w' kv t.kids ∧ Low M1 w' ∧ (∀ b, M b → M1 b) ∧ Below w.heap.size w w' ∧ w.heap.size ≤ w'.heap.size) ?_ ?_
 ·refine q0 (l_p 1 tK rfl ?_)
  refine lC (o_call fo86 rfl rfl rfl (hasC_spec _ (by omega) 105 _) ?_)
  rintro _ _ ⟨rfl, rfl⟩
  refine l_p 1 tK rfl ?_
  refine l_split 32 _ rfl (fun c4 => ?_) (fun c4 => ?_)
  ·refine l_p 3 tK rfl (q1 (c_ifT rfl (c_reg (l_p 2 tK rfl ?_))))
   refine lC (o_ld tK (h1.cell 3 _ rfl) rfl rfl rfl rfl rfl ?_)
   refine lC (o_conv tK rfl rfl rfl rfl rfl (wrap_u64 _) rfl rfl ?_)
   refine lC (o_call fo72 rfl rfl rfl (numR_spec (u64 t.n) (u64_lt _) _ _ hlow) ?_)
   rintro vhx w10 ⟨hx, ew10⟩
   replace ho := ho.ext hlow hB ew10
   replace hE := ew10.bl hE hB
   replace h1 := h1.ext ew10
   replace ha := Rep.ext ha ew10
   replace hk := hk.ext ew10
   replace hlow := hlow.ext ew10
   replace hB := ew10.z hB
   have hnl := numY_len (u64 t.n)
   refine lC (o_app tK ho hx hlow hB rfl rfl rfl rfl rfl rfl rfl (by first | (simp only [List.length_append, List.length_cons, List.length_nil]; omega) | omega) (by show (_ + _) * 1 ≤ _; first | (simp only [List.length_append, List.length_cons, List.length_nil]; omega) | omega) rfl rfl ?_)
   intro vw11 w11 Mw11 hw11 sw11 frw11 blw11
   replace hE := hE.trans sw11.below
   replace h1 := h1.stp sw11
   replace ha := Rep.stp ha sw11
   replace hk := hk.stp sw11
   replace hx := hx.stp sw11
   replace hsub := sw11.sb hsub
   replace hlow := sw11.low
   replace hB := sw11.z hB
   replace ho := hw11
   clear hw11
   refine l_p 1 tK rfl (l_nil ?_)
   have hb : (prt t.op).2.2.1 = true := by rw [y3]; simp_all
   exact x_cut2 (vw11) (Mw11) (s3 rfl rfl rfl) ⟨by rw [o3, hb]; exact ho, h1, ha, hk, hlow, hsub, hE, hB⟩
  refine l_p 1 tK rfl ?_
  refine lC (o_call fo86 rfl rfl rfl (hasC_spec _ (by omega) 98 _) ?_)
  rintro _ _ ⟨rfl, rfl⟩
  refine l_p 1 tK rfl (q1 ?_)
  refine c_if _ rfl (fun c5 => ?_) (fun c5 => ?_)
  ·refine c_reg (l_p 2 tK rfl ?_)
   refine lC (o_ld tK (h1.cell 3 _ rfl) rfl rfl rfl rfl rfl ?_)
   refine lC (o_conv tK rfl rfl rfl rfl rfl (wrap_u64 _) rfl rfl ?_)
   refine lC (o_call fo72 rfl rfl rfl (numR_spec (u64 t.n) (u64_lt _) _ _ hlow) ?_)
   rintro vhx w12 ⟨hx, ew12⟩
   replace ho := ho.ext hlow hB ew12
   replace hE := ew12.bl hE hB
   replace h1 := h1.ext ew12
   replace ha := Rep.ext ha ew12
   replace hk := hk.ext ew12
   replace hlow := hlow.ext ew12
   replace hB := ew12.z hB
   have hnl := numY_len (u64 t.n)
   refine lC (o_app tK ho hx hlow hB rfl rfl rfl rfl rfl rfl rfl (by first | (simp only [List.length_append, List.length_cons, List.length_nil]; omega) | omega) (by show (_ + _) * 1 ≤ _; first | (simp only [List.length_append, List.length_cons, List.length_nil]; omega) | omega) rfl rfl ?_)
   intro vw13 w13 Mw13 hw13 sw13 frw13 blw13
   replace hE := hE.trans sw13.below
   replace h1 := h1.stp sw13
   replace ha := Rep.stp ha sw13
   replace hk := hk.stp sw13
   replace hx := hx.stp sw13
   replace hsub := sw13.sb hsub
   replace hlow := sw13.low
   replace hB := sw13.z hB
   replace ho := hw13
   clear hw13
   refine l_p 1 tK rfl (l_nil ?_)
   have hb : (prt t.op).2.2.1 = true := by rw [y3]; simp_all
   exact x_cut2 (vw13) (Mw13) (s3 rfl rfl rfl) ⟨by rw [o3, hb]; exact ho, h1, ha, hk, hlow, hsub, hE, hB⟩
  refine c_skip ?_
  have hb : (prt t.op).2.2.1 = false := by rw [y3]; simp_all
  exact x_cut2 (v) (M1) (s3 rfl rfl rfl) ⟨by rw [o3, hb, cond_false, List.append_nil]; exact ho, h1, ha, hk, hlow, hsub, hE, hB⟩
 clear ho h1 ha hk hlow hsub hE hB
 rintro v M1 w83 ⟨ho, h1, ha, hk, hlow, hsub, hE, hB⟩
 refine c_cut2 (X := Value) (Y := Nat → Prop) (fun v M1 => [(1, .pointer (some ⟨b1, 0, none⟩)), (3, v), (4, .string (partsS t.op))]) (fun v M1 w' => OwnSl 5 w.heap.size M1 w' v (o1 t.op t.name ++ o2 t.op t.arg ++ o3 t.op t.n ++ o4 t.op t.has) ∧ At M1 w' b1 0 [.int .u8 t.op, .string t.name, .string t.arg, .int .i64 t.n, .bool t.has, .int .u8 t.ann.op, .string t.ann.name, .int .i64 t.ann.n, akv, kv] ∧ Rep.R M1 w' (.agg #[.int .u8 t.ann.op, .string t.ann.name, .int .i64 t.ann.n, akv]) t.ann ∧ Sl M1 w' kv t.kids ∧ Low M1 w' ∧ (∀ b, M b → M1 b) ∧ Below w.heap.size w w' ∧ w.heap.size ≤ w'.heap.size) ?_ ?_
 ·refine q0 (l_p 1 tK rfl ?_)
  refine lC (o_call fo86 rfl rfl rfl (hasC_spec _ (by omega) 116 _) ?_)
  rintro _ _ ⟨rfl, rfl⟩
  refine q1 ?_
  refine c_if _ rfl (fun c6 => ?_) (fun c6 => ?_)
  ·refine q0 (l_p 1 tK rfl ?_)
   refine lC (o_ld tK (h1.cell 4 _ rfl) rfl rfl rfl rfl rfl ?_)
   refine q1 ?_
   refine c_if _ rfl (fun c7 => ?_) (fun c7 => ?_)
   ·refine c_reg (l_p 1 tK rfl ?_)
    have e4 : (o4 t.op t.has).length = 1 := by rw [o4, y4, c6]; cases t.has <;> rfl
    refine lC (o_bs tK rfl rfl rfl rfl rfl rfl rfl (sz1 rfl) rfl rfl rfl ?_)
    intro bw14 w14 qbw14 ew14 hbw14
    have nbw14 := nM_of hlow qbw14
    replace ho := ho.ext hlow hB ew14
    replace hE := ew14.bl hE hB
    replace h1 := h1.ext ew14
    replace ha := Rep.ext ha ew14
    replace hk := hk.ext ew14
    replace hlow := hlow.ext ew14
    replace hB := ew14.z hB
    refine lC (o_app1 tK ho hbw14 nbw14 (show Rep.R _ _ _ (1 : UInt8) from rfl) hlow hB rfl rfl rfl rfl rfl rfl rfl (by first | (simp only [List.length_append, List.length_cons, List.length_nil]; omega) | omega) (by show (_ + _) * 1 ≤ _; first | (simp only [List.length_append, List.length_cons, List.length_nil]; omega) | omega) rfl rfl ?_)
    intro vw15 w15 Mw15 hw15 sw15 frw15 blw15
    replace hE := hE.trans sw15.below
    replace h1 := h1.stp sw15
    replace ha := Rep.stp ha sw15
    replace hk := hk.stp sw15
    replace hsub := sw15.sb hsub
    replace hlow := sw15.low
    replace hB := sw15.z hB
    replace ho := hw15
    clear hw15
    refine l_p 1 tK rfl (l_nil ?_)
    exact x_cut2 (vw15) (Mw15) (s3 rfl rfl rfl) ⟨by rw [o4, y4, c6, c7]; exact ho, h1, ha, hk, hlow, hsub, hE, hB⟩
   refine c_reg (l_p 1 tK rfl ?_)
   have e4 : (o4 t.op t.has).length = 1 := by rw [o4, y4, c6]; cases t.has <;> rfl
   refine lC (o_bs tK rfl rfl rfl rfl rfl rfl rfl (sz1 rfl) rfl rfl rfl ?_)
   intro bw16 w16 qbw16 ew16 hbw16
   have nbw16 := nM_of hlow qbw16
   replace ho := ho.ext hlow hB ew16
   replace hE := ew16.bl hE hB
   replace h1 := h1.ext ew16
   replace ha := Rep.ext ha ew16
   replace hk := hk.ext ew16
   replace hlow := hlow.ext ew16
   replace hB := ew16.z hB
   refine lC (o_app1 tK ho hbw16 nbw16 (show Rep.R _ _ _ (0 : UInt8) from rfl) hlow hB rfl rfl rfl rfl rfl rfl rfl (by first | (simp only [List.length_append, List.length_cons, List.length_nil]; omega) | omega) (by show (_ + _) * 1 ≤ _; first | (simp only [List.length_append, List.length_cons, List.length_nil]; omega) | omega) rfl rfl ?_)
   intro vw17 w17 Mw17 hw17 sw17 frw17 blw17
   replace hE := hE.trans sw17.below
   replace h1 := h1.stp sw17
   replace ha := Rep.stp ha sw17
   replace hk := hk.stp sw17
   replace hsub := sw17.sb hsub
   replace hlow := sw17.low
   replace hB := sw17.z hB
   replace ho := hw17
   clear hw17
   refine l_p 1 tK rfl (l_nil ?_)
   exact x_cut2 (vw17) (Mw17) (s3 rfl rfl rfl) ⟨by rw [o4, y4, c6, c7]; exact ho, h1, ha, hk, hlow, hsub, hE, hB⟩
  refine c_skip ?_
  exact x_cut2 (v) (M1) (s3 rfl rfl rfl) ⟨by rw [o4, y4, c6, cond_false, List.append_nil]; exact ho, h1, ha, hk, hlow, hsub, hE, hB⟩
 clear ho h1 ha hk hlow hsub hE hB
 rintro v M1 w84 ⟨ho, h1, ha, hk, hlow, hsub, hE, hB⟩
 refine c_cut2 (X := Value) (Y := Nat → Prop) (fun v M1 => [(1, .pointer (some ⟨b1, 0, none⟩)), (3, v)]) (fun v M1 w' => OwnSl 5 w.heap.size M1 w' v (o1 t.op t.name ++ o2 t.op t.arg ++ o3 t.op t.n ++ o4 t.op t.has ++ o5 t.has t.ann) ∧ At M1 w' b1 0 [.int .u8 t.op, .string t.name, .string t.arg, .int .i64 t.n, .bool t.has, .int .u8 t.ann.op, .string t.ann.name, .int .i64 t.ann.n, akv, kv] ∧ Rep.R M1 w' (.agg #[.int .u8 t.ann.op, .string t.ann.name, .int .i64 t.ann.n, akv]) t.ann ∧ Sl M1 w' kv t.kids ∧ Low M1 w' ∧ (∀ b, M b → M1 b) ∧ Below w.heap.size w w' ∧ w.heap.size ≤ w'.heap.size) ?_ ?_
 ·refine q0 (l_p 1 tK rfl ?_)
  refine lC (o_ld tK (h1.cell 4 _ rfl) rfl rfl rfl rfl rfl ?_)
  refine q1 ?_
  refine c_if _ rfl (fun c8 => ?_) (fun c8 => ?_)
  ·refine c_reg (l_p 2 tK rfl ?_)
   refine lC (o_lds tK (fun j v hv => (h1).mid 5 (sub := [.int .u8 t.ann.op, .string t.ann.name, .int .i64 t.ann.n, akv]) rfl j v hv) rfl rfl rfl rfl rfl rfl ?_)
   have e1 : (o5 t.has t.ann).length = (typeB t.ann).length := by rw [o5, c8]; rfl
   refine lC (o_call fo46 rfl rfl rfl (typeR_spec t.ann _ _ _ ha hlow (by omega)) ?_)
   rintro vhx w18 ⟨hx, ew18⟩
   replace ho := ho.ext hlow hB ew18
   replace hE := ew18.bl hE hB
   replace h1 := h1.ext ew18
   replace ha := Rep.ext ha ew18
   replace hk := hk.ext ew18
   replace hlow := hlow.ext ew18
   replace hB := ew18.z hB
   refine lC (o_app tK ho hx hlow hB rfl rfl rfl rfl rfl rfl rfl (by first | (simp only [List.length_append, List.length_cons, List.length_nil]; omega) | omega) (by show (_ + _) * 1 ≤ _; first | (simp only [List.length_append, List.length_cons, List.length_nil]; omega) | omega) rfl rfl ?_)
   intro vw19 w19 Mw19 hw19 sw19 frw19 blw19
   replace hE := hE.trans sw19.below
   replace h1 := h1.stp sw19
   replace ha := Rep.stp ha sw19
   replace hk := hk.stp sw19
   replace hx := hx.stp sw19
   replace hsub := sw19.sb hsub
   replace hlow := sw19.low
   replace hB := sw19.z hB
   replace ho := hw19
   clear hw19
   refine l_p 1 tK rfl (l_nil ?_)
   exact x_cut2 (vw19) (Mw19) (s2 rfl rfl) ⟨by rw [show o5 t.has t.ann = typeB t.ann by rw [o5, c8]; rfl]; exact ho, h1, ha, hk, hlow, hsub, hE, hB⟩
  refine c_skip ?_
  exact x_cut2 (v) (M1) (s2 rfl rfl) ⟨by rw [show o5 t.has t.ann = [] by rw [o5, c8]; rfl, List.append_nil]; exact ho, h1, ha, hk, hlow, hsub, hE, hB⟩
 clear ho h1 ha hk hlow hsub hE hB
 rintro v M1 w85 ⟨ho, h1, ha, hk, hlow, hsub, hE, hB⟩
 refine c_cut2 (X := Value) (Y := Nat → Prop) (fun v M1 => [(1, .pointer (some ⟨b1, 0, none⟩)), (3, v)]) (fun v M1 w' => OwnSl 5 w.heap.size M1 w' v (o1 t.op t.name ++ o2 t.op t.arg ++ o3 t.op t.n ++ o4 t.op t.has ++ o5 t.has t.ann ++ o6 t.op t.kids.length) ∧ At M1 w' b1 0 [.int .u8 t.op, .string t.name, .string t.arg, .int .i64 t.n, .bool t.has, .int .u8 t.ann.op, .string t.ann.name, .int .i64 t.ann.n, akv, kv] ∧ Rep.R M1 w' (.agg #[.int .u8 t.ann.op, .string t.ann.name, .int .i64 t.ann.n, akv]) t.ann ∧ Sl M1 w' kv t.kids ∧ Low M1 w' ∧ (∀ b, M b → M1 b) ∧ Below w.heap.size w w' ∧ w.heap.size ≤ w'.heap.size) ?_ ?_
 ·refine q0 (l_p 1 tK rfl ?_)
  refine lC (o_ld tK (h1.cell 0 _ rfl) rfl rfl rfl rfl rfl ?_)
  refine l_p 1 tK rfl (q1 ?_)
  refine c_ifP _ rfl (fun c9 => ?_) (fun c9 => ?_)
  ·refine c_reg (l_p 2 tK rfl ?_)
   refine lC (o_ld tK (h1.cell 9 _ rfl) rfl rfl rfl rfl rfl ?_)
   refine lC (o_len tK hk rfl rfl rfl rfl rfl ?_)
   refine lC (o_conv (y := ((t.kids.length : Nat) : Int)) tK rfl rfl rfl rfl rfl ((wrap_u64 _).trans (by rw [u64_nat (by omega)])) rfl rfl ?_)
   refine lC (o_call fo72 rfl rfl rfl (numR_spec (t.kids.length) (by omega) _ _ hlow) ?_)
   rintro vhx w20 ⟨hx, ew20⟩
   replace ho := ho.ext hlow hB ew20
   replace hE := ew20.bl hE hB
   replace h1 := h1.ext ew20
   replace ha := Rep.ext ha ew20
   replace hk := hk.ext ew20
   replace hlow := hlow.ext ew20
   replace hB := ew20.z hB
   have hnl := numY_len (t.kids.length)
   refine lC (o_app tK ho hx hlow hB rfl rfl rfl rfl rfl rfl rfl (by first | (simp only [List.length_append, List.length_cons, List.length_nil]; omega) | omega) (by show (_ + _) * 1 ≤ _; first | (simp only [List.length_append, List.length_cons, List.length_nil]; omega) | omega) rfl rfl ?_)
   intro vw21 w21 Mw21 hw21 sw21 frw21 blw21
   replace hE := hE.trans sw21.below
   replace h1 := h1.stp sw21
   replace ha := Rep.stp ha sw21
   replace hk := hk.stp sw21
   replace hx := hx.stp sw21
   replace hsub := sw21.sb hsub
   replace hlow := sw21.low
   replace hB := sw21.z hB
   replace ho := hw21
   clear hw21
   refine l_p 1 tK rfl (l_nil ?_)
   exact x_cut2 (vw21) (Mw21) (s2 rfl rfl) ⟨by rw [o6, y6, decide_eq_true c9]; exact ho, h1, ha, hk, hlow, hsub, hE, hB⟩
  refine c_skip ?_
  exact x_cut2 (v) (M1) (s2 rfl rfl) ⟨by rw [o6, y6, decide_eq_false c9, cond_false, List.append_nil]; exact ho, h1, ha, hk, hlow, hsub, hE, hB⟩
 clear ho h1 ha hk hlow hsub hE hB
 rintro v M1 w86 ⟨ho, h1, ha, hk, hlow, hsub, hE, hB⟩
 refine c_seq (q0 (l_p 1 tK rfl (q1 (c_blk ?_))))
 refine c_loop3 (X := Nat) (Y := Value) (Z := Nat → Prop) (fun i v M1 => [(1, .pointer (some ⟨b1, 0, none⟩)), (3, v), (5, .int .i64 (i : Nat))]) (fun i v M1 w' => i ≤ t.kids.length ∧ OwnSl 5 w.heap.size M1 w' v ((o1 t.op t.name ++ o2 t.op t.arg ++ o3 t.op t.n ++ o4 t.op t.has ++ o5 t.has t.ann ++ o6 t.op t.kids.length) ++ (t.kids.take i).flatMap termB) ∧ At M1 w' b1 0 [.int .u8 t.op, .string t.name, .string t.arg, .int .i64 t.n, .bool t.has, .int .u8 t.ann.op, .string t.ann.name, .int .i64 t.ann.n, akv, kv] ∧ Sl M1 w' kv t.kids ∧ Low M1 w' ∧ (∀ b, M b → M1 b) ∧ Below w.heap.size w w' ∧ w.heap.size ≤ w'.heap.size) (fun i v M1 => t.kids.length - i) (0) (v) (M1) (s3 rfl rfl rfl) ?_ ?_
 ·exact ⟨Nat.zero_le _, by simpa using ho, h1, hk, hlow, hsub, hE, hB⟩
 clear ho h1 ha hk hlow hsub hE hB
 rintro i v M1 w22 ⟨hi, ho, h1, hk, hlow, hsub, hE, hB⟩
 have hft := flat_take_len (f := termB) (l := t.kids) i
 refine c_seq (q0 (l_p 2 tK rfl ?_))
 refine lC (o_ld tK (h1.cell 9 _ rfl) rfl rfl rfl rfl rfl ?_)
 refine lC (o_len tK hk rfl rfl rfl rfl rfl ?_)
 refine l_p 1 tK rfl (q1 ?_)
 refine c_ifP _ rfl (fun c10 => ?_) (fun c10 => ?_)
 ·refine c_skip (x_seq (c_seq (c_blk (c_reg (l_p 2 tK rfl ?_)))))
  refine lC (o_ld tK (h1.cell 9 _ rfl) rfl rfl rfl rfl rfl ?_)
  refine l_p 1 tK rfl ?_
  have hik : i < t.kids.length := by omega
  have hf1 := flat_take_len (f := termB) (l := t.kids) (i + 1)
  rw [flat_step hik, List.length_append] at hf1
  refine lC (o_ixS tK hk (List.getElem?_eq_getElem hik) rfl rfl rfl rfl rfl rfl rfl rfl rfl ?_)
  intro ebx eox eux hyx hatx
  obtain ⟨akvx, kvx, rfl, opx, nmx, agx, n64x, hax, hkx⟩ := tm_open hyx
  replace hatx : At M1 w22 ebx eox [.int .u8 t.kids[i].op, .string t.kids[i].name, .string t.kids[i].arg, .int .i64 t.kids[i].n, .bool t.kids[i].has, .int .u8 t.kids[i].ann.op, .string t.kids[i].ann.name, .int .i64 t.kids[i].ann.n, akvx, kvx] := hatx
  refine lC (o_lds tK (fun j v hv => hatx.cell j v hv) rfl rfl rfl rfl rfl rfl ?_)
  refine lC (o_call fo44 rfl rfl rfl (ih _ (List.getElem_mem hik) _ _ _ hyx hlow (hok.kid (List.getElem_mem hik)) (by omega)) ?_)
  rintro vhx w23 ⟨hx, ew23⟩
  replace ho := ho.ext hlow hB ew23
  replace hE := ew23.bl hE hB
  replace h1 := h1.ext ew23
  replace hk := hk.ext ew23
  replace hyx := Rep.ext hyx ew23
  replace hax := Rep.ext hax ew23
  replace hkx := hkx.ext ew23
  replace hatx := hatx.ext ew23
  replace hlow := hlow.ext ew23
  replace hB := ew23.z hB
  refine lC (o_app tK ho hx hlow hB rfl rfl rfl rfl rfl rfl rfl (by simp only [List.length_append]; omega) (by show (_ + _) * 1 ≤ _; simp only [List.length_append]; omega) rfl rfl ?_)
  intro vw24 w24 Mw24 hw24 sw24 frw24 blw24
  replace hE := hE.trans sw24.below
  replace h1 := h1.stp sw24
  replace hk := hk.stp sw24
  replace hyx := Rep.stp hyx sw24
  replace hax := Rep.stp hax sw24
  replace hkx := hkx.stp sw24
  replace hatx := hatx.stp sw24
  replace hx := hx.stp sw24
  replace hsub := sw24.sb hsub
  replace hlow := sw24.low
  replace hB := sw24.z hB
  replace ho := hw24
  clear hw24
  refine l_p 1 tK rfl (q2 (x_seq (c_reg (l_p 1 tK rfl ?_))))
  refine lC (o_ai rfl rfl rfl (by omega) rfl rfl ?_)
  refine l_p 1 tK rfl (l_nil ?_)
  exact x_round3 (i + 1) (vw24) (Mw24) (s3 rfl rfl (get_num rfl (by omega))) ⟨by omega, by rw [flat_step hik, ← List.append_assoc]; exact ho, h1, hk, hlow, hsub, hE, hB⟩ (by omega)
 refine c_exit (x_seqE (x_seqE (x_blkE (x_seq (q0 (l_p 2 tK rfl (q1 (c_ret (x_ret1 rfl rfl ?_)))))))))
 obtain rfl : i = t.kids.length := by omega
 have hfin := termB_eq t
 rw [headE] at hfin
 rw [List.take_of_length_le (Nat.le_refl _)] at ho
 simp only [List.append_assoc] at ho hfin
 rw [← hfin] at ho
 exact ⟨ho.sl (by omega) hlow0 hsub, hE⟩
end Go.Proofs.Ytohfnpmehgpphaa
namespace Go.Proofs.Ytohfnpmehgpphaa
open Go Rw Go.RowKit
set_option maxRecDepth 100000
def aszTo (t : Tm) (i : Nat) : Nat := (((nodesL t).take i).map fun x => psz x.ann).sum
theorem aszTo_all {t : Tm} : aszTo t (nsz t) = asz t := by
 unfold aszTo asz
 rw [List.take_of_length_le (show (nodesL t).length ≤ nsz t from Nat.le_refl _)]
theorem aszTo_step {t : Tm} {i : Nat} (h : i < (nodesL t).length) : aszTo t (i + 1) = aszTo t i + psz (nodesL t)[i].ann := by
 unfold aszTo
 rw [List.take_succ_eq_append_getElem h, List.map_append, List.sum_append]
 simp
theorem aszTo_le (t : Tm) (i : Nat) : aszTo t i ≤ asz t := by
 have h : asz t = aszTo t i + (((nodesL t).drop i).map fun x => psz x.ann).sum := by
  unfold asz aszTo
  rw [← List.sum_append, ← List.map_append, List.take_append_drop]
 omega
theorem nodes_spec : ∀ (t : Tm) (M : Nat → Prop) (w : World) (v : Value), Rep.R M w v t → Low M w → nsz t ≤ 2000000 → Calls Try.prog 81 #[v] w (Ret fun r w' => Sl M w' r (nodesL t) ∧ Ext w w') := by
 refine Tm.ind fun t ih => ?_
 intro M w v ht hlow0 hsz
 have hlow := hlow0
 have hB : w.heap.size ≤ w.heap.size := Nat.le_refl _
 have hE : Below w.heap.size w w := Below.refl _ _
 have hsub : ∀ b, M b → M b := fun _ h => h
 obtain ⟨akv, kv, rfl, op, nm, ag, n64, ha, hk⟩ := tm_open ht
 have hps := nsz_eq t
 have hkl := len_nsz t.kids
 refine c_enter (n := 23) Try.func81 rfl rfl rfl ?_
 refine q0 ?_
 refine lC (o_box rfl rfl rfl ?_)
 intro b1 w1 hb_b1 ew1 h1
 replace h1 : Box _ b1 84 [.int .u8 t.op, .string t.name, .string t.arg, .int .i64 t.n, .bool t.has, .int .u8 t.ann.op, .string t.ann.name, .int .i64 t.ann.n, akv, kv] := h1
 replace h1 := h1.at (nM_of hlow hb_b1)
 replace hE := ew1.bl hE hB
 replace ht := Rep.ext ht ew1
 replace ha := Rep.ext ha ew1
 replace hk := hk.ext ew1
 replace hlow := hlow.ext ew1
 replace hB := ew1.z hB
 refine l_p 1 tK rfl (q1 (q0 ?_))
 refine lC (o_lds tK (fun j v hv => h1.cell j v hv) rfl rfl rfl rfl rfl rfl ?_)
 refine lC (o_bs tK rfl rfl rfl rfl rfl rfl rfl (sz1 rfl) rfl rfl rfl ?_)
 intro bw2 w2 qbw2 ew2 hbw2
 have sw2 := Stp.add ew2 hlow hB (Nat.le_of_eq qbw2.symm) hbw2.lt
 have le_bw2 := hB
 replace hE := hE.trans sw2.below
 replace ht := Rep.stp ht sw2
 replace ha := Rep.stp ha sw2
 replace hk := hk.stp sw2
 replace h1 := h1.stp sw2
 replace hsub := sw2.sb hsub
 replace hlow := sw2.low
 replace hB := sw2.z hB
 have ho := own_litS sw2 hbw2 (show Rs _ _ [_] [t] from ⟨ht, trivial⟩) qbw2 le_bw2 (by simp [maxLen])
 refine l_p 1 tK rfl (q1 (c_seq (q0 (l_p 1 tK rfl (q1 (c_blk ?_))))))
 refine c_loop3 (X := Nat) (Y := Value) (Z := Nat → Prop) (fun i v M1 => [(1, .pointer (some ⟨b1, 0, none⟩)), (3, v), (4, .int .i64 (i : Nat))]) (fun i v M1 w' => i ≤ t.kids.length ∧ OwnSl 84 w.heap.size M1 w' v (t :: (t.kids.take i).flatMap nodesL) ∧ At M1 w' b1 0 [.int .u8 t.op, .string t.name, .string t.arg, .int .i64 t.n, .bool t.has, .int .u8 t.ann.op, .string t.ann.name, .int .i64 t.ann.n, akv, kv] ∧ Sl M1 w' kv t.kids ∧ Low M1 w' ∧ (∀ b, M b → M1 b) ∧ Below w.heap.size w w' ∧ w.heap.size ≤ w'.heap.size) (fun i v M1 => t.kids.length - i) (0) (.slice (some ⟨bw2, 0, none⟩) 1 1) ((Rw.Add M bw2)) (s3 rfl rfl rfl) ?_ ?_
 ·exact ⟨Nat.zero_le _, ho, h1, hk, hlow, hsub, hE, hB⟩
 clear ho h1 ht ha hk hlow hsub hE hB
 rintro i v M1 w3 ⟨hi, ho, h1, hk, hlow, hsub, hE, hB⟩
 refine c_seq (q0 (l_p 2 tK rfl ?_))
 refine lC (o_ld tK (h1.cell 9 _ rfl) rfl rfl rfl rfl rfl ?_)
 refine lC (o_len tK hk rfl rfl rfl rfl rfl ?_)
 refine l_p 1 tK rfl (q1 ?_)
 refine c_ifP _ rfl (fun c1 => ?_) (fun c1 => ?_)
 ·refine c_skip (x_seq (c_seq (c_blk (c_reg (l_p 2 tK rfl ?_)))))
  refine lC (o_ld tK (h1.cell 9 _ rfl) rfl rfl rfl rfl rfl ?_)
  refine l_p 1 tK rfl ?_
  have hik : i < t.kids.length := by omega
  have hp1 := nsz_get hik
  have hp2 := take_nsz t.kids i
  refine lC (o_ixS tK hk (List.getElem?_eq_getElem hik) rfl rfl rfl rfl rfl rfl rfl rfl rfl ?_)
  intro ebx eox eux hyx hatx
  obtain ⟨akvx, kvx, rfl, opx, nmx, agx, n64x, hax, hkx⟩ := tm_open hyx
  replace hatx : At M1 w3 ebx eox [.int .u8 t.kids[i].op, .string t.kids[i].name, .string t.kids[i].arg, .int .i64 t.kids[i].n, .bool t.kids[i].has, .int .u8 t.kids[i].ann.op, .string t.kids[i].ann.name, .int .i64 t.kids[i].ann.n, akvx, kvx] := hatx
  refine lC (o_lds tK (fun j v hv => hatx.cell j v hv) rfl rfl rfl rfl rfl rfl ?_)
  refine lC (o_call fo81 rfl rfl rfl (ih _ (List.getElem_mem hik) _ _ _ hyx hlow (by omega)) ?_)
  rintro vhr w4 ⟨hr, ew4⟩
  replace ho := ho.ext hlow hB ew4
  replace hE := ew4.bl hE hB
  replace h1 := h1.ext ew4
  replace hk := hk.ext ew4
  replace hyx := Rep.ext hyx ew4
  replace hax := Rep.ext hax ew4
  replace hkx := hkx.ext ew4
  replace hatx := hatx.ext ew4
  replace hlow := hlow.ext ew4
  replace hB := ew4.z hB
  have e1 : (t :: (t.kids.take i).flatMap nodesL).length = nszs (t.kids.take i) + 1 := rfl
  have e2 : (nodesL t.kids[i]).length = nsz t.kids[i] := rfl
  have e3 := take_nsz t.kids (i + 1)
  rw [nszs_take hik] at e3
  refine lC (o_app tK ho hr hlow hB rfl rfl rfl rfl rfl rfl rfl (by omega) (by rw [e1, e2]; show _ * 136 ≤ _; omega) rfl rfl ?_)
  intro vw5 w5 Mw5 hw5 sw5 frw5 blw5
  replace hE := hE.trans sw5.below
  replace h1 := h1.stp sw5
  replace hk := hk.stp sw5
  replace hyx := Rep.stp hyx sw5
  replace hax := Rep.stp hax sw5
  replace hkx := hkx.stp sw5
  replace hatx := hatx.stp sw5
  replace hr := hr.stp sw5
  replace hsub := sw5.sb hsub
  replace hlow := sw5.low
  replace hB := sw5.z hB
  replace ho := hw5
  clear hw5
  refine l_p 1 tK rfl (q2 (x_seq (c_reg (l_p 1 tK rfl ?_))))
  refine lC (o_ai rfl rfl rfl (by omega) rfl rfl ?_)
  refine l_p 1 tK rfl (l_nil ?_)
  exact x_round3 (i + 1) (vw5) (Mw5) (s3 rfl rfl rfl) ⟨by omega, by rw [ntake_step hik]; exact ho, h1, hk, hlow, hsub, hE, hB⟩ (by omega)
 refine c_exit (x_seqE (x_seqE (x_blkE (x_seq (q0 (l_p 2 tK rfl (q1 (c_ret (x_ret1 rfl rfl ?_)))))))))
 obtain rfl : i = t.kids.length := by omega
 rw [List.take_of_length_le (Nat.le_refl _), ← nodesL_eq] at ho
 exact ⟨ho.sl (by have : (nodesL t).length = nsz t := rfl; omega) hlow0 hsub, hE⟩
theorem manyM_spec (t : Tm) (M : Nat → Prop) (w : World) (v : Value) (ht : Rep.R M w v t) (hlow : Low M w) (hz : AnnS t) (hn : nsz t ≤ 2000000) (has : asz t ≤ 2000000) :
  Calls Try.prog 39 #[.slice none 0 0, v] w (Ret fun r w' => r = .bool (decide ((80 : Int) < (nsz t : Int)) || decide ((200 : Int) < (asz t : Int))) ∧ Ext w w') := by
 have hE : Below w.heap.size w w := Below.refl _ _
 have hB : w.heap.size ≤ w.heap.size := Nat.le_refl _
 obtain ⟨akv, kv, rfl, op, nm, ag, n64, ha, hk⟩ := tm_open ht
 refine c_enter (n := 53) Try.func39 rfl rfl rfl ?_
 refine q0 ?_
 refine lC (o_box rfl rfl rfl ?_)
 intro b3 w1 hb_b3 ew1 h3
 replace h3 : Box _ b3 84 [.int .u8 t.op, .string t.name, .string t.arg, .int .i64 t.n, .bool t.has, .int .u8 t.ann.op, .string t.ann.name, .int .i64 t.ann.n, akv, kv] := h3
 replace h3 := h3.at (nM_of hlow hb_b3)
 replace hE := ew1.bl hE hB
 replace ht := Rep.ext ht ew1
 replace ha := Rep.ext ha ew1
 replace hk := hk.ext ew1
 replace hlow := hlow.ext ew1
 replace hB := ew1.z hB
 refine l_p 1 tK rfl (q1 (q0 ?_))
 refine lC (o_lds tK (fun j v hv => h3.cell j v hv) rfl rfl rfl rfl rfl rfl ?_)
 refine lC (o_call fo81 rfl rfl rfl (nodes_spec t M _ _ ht hlow hn) ?_)
 rintro vhl w2 ⟨hl, ew2⟩
 replace hE := ew2.bl hE hB
 replace ht := Rep.ext ht ew2
 replace ha := Rep.ext ha ew2
 replace hk := hk.ext ew2
 replace h3 := h3.ext ew2
 replace hlow := hlow.ext ew2
 replace hB := ew2.z hB
 have hll : (nodesL t).length = nsz t := rfl
 refine l_p 1 tK rfl (q1 (q0 (l_p 1 tK rfl (q1 (c_seq (q0 (l_p 1 tK rfl (q1 (c_blk ?_)))))))))
 refine c_loop (X := Nat) (fun i => [(0, .slice none 0 0), (5, vhl), (6, .int .i64 (aszTo t i : Nat)), (7, .int .i64 (i : Nat))]) (fun i w' => i ≤ nsz t ∧ Sl M w' vhl (nodesL t) ∧ Low M w' ∧ Below w.heap.size w w' ∧ w.heap.size ≤ w'.heap.size) (fun i => nsz t - i) (0) (s4 rfl rfl rfl rfl) ?_ ?_
 ·exact ⟨Nat.zero_le _, hl, hlow, hE, hB⟩
 clear hl h3 ht ha hk hlow hE hB
 rintro i w3 ⟨hi, hl, hlow, hE, hB⟩
 have hat := aszTo_le t i
 refine c_seq (q0 (l_p 2 tK rfl ?_))
 refine lC (o_len tK hl rfl rfl rfl rfl rfl ?_)
 refine l_p 1 tK rfl (q1 ?_)
 refine c_ifP _ rfl (fun c1 => ?_) (fun c1 => ?_)
 ·refine c_skip (x_seq (c_seq (c_blk (c_reg (l_p 3 tK rfl ?_)))))
  have hik : i < (nodesL t).length := by omega
  have hpa := hz _ (List.getElem_mem hik)
  have hst := aszTo_step hik
  have hat2 := aszTo_le t (i + 1)
  refine lC (o_ixS tK hl (List.getElem?_eq_getElem hik) rfl rfl rfl rfl rfl rfl rfl rfl rfl ?_)
  intro ebx eox eux hyx hatx
  obtain ⟨akvx, kvx, rfl, opx, nmx, agx, n64x, hax, hkx⟩ := tm_open hyx
  replace hatx : At M w3 ebx eox [.int .u8 (nodesL t)[i].op, .string (nodesL t)[i].name, .string (nodesL t)[i].arg, .int .i64 (nodesL t)[i].n, .bool (nodesL t)[i].has, .int .u8 (nodesL t)[i].ann.op, .string (nodesL t)[i].ann.name, .int .i64 (nodesL t)[i].ann.n, akvx, kvx] := hatx
  refine l_p 1 tK rfl ?_
  refine lC (o_lds tK (fun j v hv => (hatx).mid 5 (sub := [.int .u8 (nodesL t)[i].ann.op, .string (nodesL t)[i].ann.name, .int .i64 (nodesL t)[i].ann.n, akvx]) rfl j v hv) rfl rfl rfl rfl rfl rfl ?_)
  refine lC (o_call fo40 rfl rfl rfl (parts_spec _ M _ _ hax hlow hpa) ?_)
  rintro vhpt w4 ⟨hpt, ew4⟩
  replace hE := ew4.bl hE hB
  replace hl := hl.ext ew4
  replace hyx := Rep.ext hyx ew4
  replace hax := Rep.ext hax ew4
  replace hkx := hkx.ext ew4
  replace hatx := hatx.ext ew4
  replace hlow := hlow.ext ew4
  replace hB := ew4.z hB
  have hpl : (partsL (nodesL t)[i].ann).length = psz (nodesL t)[i].ann := rfl
  refine lC (o_len tK hpt rfl rfl rfl rfl rfl ?_)
  refine lC (o_ai rfl rfl rfl (by omega) rfl rfl ?_)
  refine l_p 1 tK rfl (q2 (x_seq (c_reg (l_p 1 tK rfl ?_))))
  refine lC (o_ai rfl rfl rfl (by omega) rfl rfl ?_)
  refine l_p 1 tK rfl (l_nil ?_)
  exact x_round (i + 1) (s4 rfl rfl (get_num rfl (by rw [aszTo_step hik]; rfl)) (get_num rfl (by omega))) ⟨by omega, hl, hlow, hE, hB⟩ (by omega)
 refine c_exit (x_seqE (x_seqE (x_blkE (x_seq (c_seq (q0 (l_p 1 tK rfl (q1 (c_blk ?_)))))))))
 obtain rfl : i = nsz t := by omega
 rw [aszTo_all]
 refine c_loop (X := Nat) (fun j => [(0, .slice none 0 0), (5, vhl), (6, .int .i64 (asz t : Nat)), (8, .int .i64 (j : Nat))]) (fun j w' => j = 0 ∧ Sl M w' vhl (nodesL t) ∧ Low M w' ∧ Below w.heap.size w w' ∧ w.heap.size ≤ w'.heap.size) (fun j => j) (0) (s4 rfl rfl rfl rfl) ?_ ?_
 ·exact ⟨rfl, hl, hlow, hE, hB⟩
 clear hl hlow hE hB
 rintro j w77 ⟨rfl, hl, hlow, hE, hB⟩
 refine c_seq (q0 (l_p 4 tK rfl (q1 ?_)))
 refine c_ifP _ rfl (fun c2 => ?_) (fun c2 => ?_)
 ·exact absurd c2 (by omega)
 refine c_exit (x_seqE (x_seqE (x_blkE (x_seq (q0 (l_p 1 tK rfl ?_))))))
 refine lC (o_len tK hl rfl rfl rfl rfl rfl ?_)
 refine l_p 2 tK rfl ?_
 refine l_splitP 44 _ rfl (fun c3 => ?_) (fun c3 => ?_)
 ·refine l_p 9 tK rfl (q1 (c_ret (x_ret1 rfl rfl ?_)))
  exact ⟨by rw [decide_eq_true (show (80 : Int) < (nsz t : Int) by omega)]; rfl, hE⟩
 refine l_p 4 tK rfl ?_
 refine l_splitP 48 _ rfl (fun c4 => ?_) (fun c4 => ?_)
 ·refine l_p 5 tK rfl (q1 (c_ret (x_ret1 rfl rfl ?_)))
  exact ⟨by rw [decide_eq_false (show ¬ (80 : Int) < (nsz t : Int) by omega), Bool.false_or]; rw [decide_eq_true (show (200 : Int) < (asz t : Int) by omega)], hE⟩
 refine l_p 5 tK rfl (q1 (c_ret (x_ret1 rfl rfl ?_)))
 exact ⟨by rw [decide_eq_false (show ¬ (80 : Int) < (nsz t : Int) by omega), Bool.false_or]; rw [decide_eq_false (show ¬ (200 : Int) < (asz t : Int) by omega)]; rfl, hE⟩
end Go.Proofs.Ytohfnpmehgpphaa
namespace Rw
open Go Go.RowKit
theorem Ret.out {R : Value → World → Prop} {e : Ending} {w : World} (h : Ret R e w) : ∃ v, e = .returned v ∧ R v w := by
  cases e with
  | returned v => exact ⟨v, rfl, h⟩
  | _ => exact h.elim
/-! ## What the form's reach pays -/
end Rw
namespace Rw
open Go Go.RowKit
open Go.Proofs.Ytohfnpmehgpphaa.Rows (uptoBulk uptoBulkAll uptoSmall)
section
variable {H : Type}
theorem bulk_one (d : DataW H) : 1 ≤ uptoBulk d := by
  cases d with
  | lit l => cases l <;> simp [uptoBulk]
  | nil => simp [uptoBulk]
  | ptr d => simp [uptoBulk]
  | slice elems spare => simp [uptoBulk]
  | agg parts => simp [uptoBulk]
  | iface t d => simp [uptoBulk]
  | map entries => simp [uptoBulk]
  | held h => simp [uptoBulk]
theorem bulk_all : ∀ (l : List (DataW H)), uptoBulkAll l = (l.map uptoBulk).sum
  | [] => by simp [uptoBulkAll]
  | x :: r => by simp [uptoBulkAll, bulk_all r]
theorem bulk_str (l : List UInt8) : uptoBulk (DataW.lit (H := H) (.string l)) = l.length + 1 := by simp [uptoBulk]
theorem bulk_slice (l s : List (DataW H)) : uptoBulk (.slice l s) = uptoBulkAll l + uptoBulkAll s + 1 := by simp [uptoBulk]
theorem bulk_agg (l : List (DataW H)) : uptoBulk (.agg l) = uptoBulkAll l + 1 := by simp [uptoBulk]
theorem bulk_len (l : List (DataW H)) : l.length ≤ uptoBulkAll l := by
  induction l with
  | nil => simp
  | cons x r ih => have := bulk_one x; simp only [uptoBulkAll, List.length_cons]; omega
theorem bulk_mem {l : List (DataW H)} {d : DataW H} (h : d ∈ l) : uptoBulk d ≤ uptoBulkAll l := by
  induction l with
  | nil => cases h
  | cons x r ih =>
    simp only [uptoBulkAll]
    rcases List.mem_cons.1 h with e | e
    · subst e; omega
    · have := ih e; omega
theorem bulk_each {l : List (DataW H)} (h : uptoSmall H l = true) {j : Nat} {d : DataW H} (hd : l[j]? = some d) : uptoBulk d ≤ 1048576 := by
  have h1 : uptoBulkAll l ≤ 1048576 := by simpa [uptoSmall] using h
  exact Nat.le_trans (bulk_mem (List.mem_of_getElem? hd)) h1
/-- A type's readings, of bulk up to N, are things of α, of size at most that bulk. -/
structure OpensD (H : Type) {α : Type} [Rep α] (P : Program) (t : TypeId) (N : Nat) (sz : α → Nat) : Prop where
  cells : P.cellsOf t = Rep.sz α
  read : ∀ (enc : TypeId × Value → H) (w : World) (fuel : Nat) (cs : List Value) (d : DataW H) (ps : List MemPlace), DataW.trod enc P w 0 (fun _ => true) true fuel t cs = some (d, ps) → uptoBulk d ≤ N →
    ∃ (v : Value) (x : α), v.cells.toList = cs ∧ Rep.R NoM w v x ∧ sz x ≤ uptoBulk d
variable {P : Program}
theorem opensD_int {t : TypeId} (N : Nat) (ht : P.underlying t = some (.int .i64)) (hc : P.cellsOf t = 1) : OpensD H (α := Int) P t N (fun _ => 1) := by
  refine ⟨hc, fun enc w fuel cs d ps h _ => ?_⟩
  obtain ⟨n, rfl, _, hw⟩ := DataW.trod_int ht h
  refine ⟨.int .i64 n, n, rfl, ⟨rfl, ?_⟩, bulk_one d⟩
  have : -9223372036854775808 ≤ n ∧ n ≤ 9223372036854775807 := by simpa [Lit.wf, IntKind.min, IntKind.max, IntKind.signed, IntKind.bits] using hw
  exact this
theorem opensD_string {t : TypeId} (N : Nat) (hN : N < 140737488355328) (ht : P.underlying t = some .string) (hc : P.cellsOf t = 1) : OpensD H (α := ByteArray) P t N (fun s => 1 + s.size) := by
  refine ⟨hc, fun enc w fuel cs d ps h hQ => ?_⟩
  obtain ⟨s, rfl, hx, _⟩ := DataW.trod_string ht h
  cases hx
  rw [bulk_str] at hQ ⊢
  have e : s.data.toList.length = s.size := by simp
  exact ⟨.string s, s, rfl, ⟨rfl, by omega⟩, by omega⟩
theorem sum_le {α : Type} (f g : α → Nat) : ∀ (l : List α), (∀ x ∈ l, f x ≤ g x) → (l.map f).sum ≤ (l.map g).sum
  | [], _ => by simp
  | x :: l, h => by
    have := sum_le f g l (fun y hy => h y (List.mem_cons_of_mem _ hy))
    have := h x List.mem_cons_self
    simp only [List.map_cons, List.sum_cons]; omega
theorem opensD_slice {α : Type} [Rep α] {sz : α → Nat} {t e : TypeId} (N : Nat) (hN : N < 140737488355328) (ht : P.underlying t = some (.slice e)) (hc : P.cellsOf t = 1) (he : OpensD H P e (N - 1) sz) : OpensD H (α := List α) P t N (fun l => 1 + (l.map sz).sum) := by
  refine ⟨hc, fun enc w fuel cs d ps h hQ => ?_⟩
  rcases Go.Deep.open_slice ht h with ⟨rfl, _⟩ | ⟨a, len, cap, m, n, D, Pl, rfl, _, hl, _, hm, hx, hel⟩
  · exact ⟨.slice none 0 0, [], rfl, sl_nil, by have := bulk_one d; simpa using this⟩
  · have hm' : m = cap := by simpa using hm
    subst hm'
    have hd : d = .slice ((List.range len).map D) ((List.range (m - len)).map fun j => D (len + j)) := congrArg Prod.fst hx
    subst hd
    rw [bulk_slice] at hQ ⊢
    have hlen := bulk_len ((List.range len).map D)
    rw [List.length_map, List.length_range] at hlen
    have hlen' : len < 140737488355328 := by omega
    rw [he.cells] at hel
    have each : ∀ i : Fin len, ∃ y : Value × α, w.cells? 0 (a.add (i.1 * Rep.sz α)) (Rep.sz α) = some y.1.cells.toList ∧ Rep.R NoM w y.1 y.2 ∧ sz y.2 ≤ uptoBulk (D i.1) := by
      intro i
      obtain ⟨cs', h1, h2⟩ := hel i.1 (Nat.lt_of_lt_of_le i.2 hl)
      have hi : uptoBulk (D i.1) ≤ uptoBulkAll ((List.range len).map D) := bulk_mem (List.mem_map.2 ⟨i.1, List.mem_range.2 i.2, rfl⟩)
      obtain ⟨v, x, hv, hR, hp⟩ := he.read enc w n cs' _ _ h2 (by omega)
      exact ⟨(v, x), by rw [hv]; exact h1, hR, hp⟩
    obtain ⟨f, hf⟩ := Classical.axiomOfChoice each
    refine ⟨.slice (some a) len m, List.ofFn fun i => (f i).2, rfl, ⟨some a, m, by simp, by simpa using hlen', by simpa using hl, ?_⟩, ?_⟩
    · by_cases h0 : len = 0
      · subst h0; left; simp
      · right
        have hpos : 0 < Rep.sz α := Rep.pos
        obtain ⟨_, _, hc0⟩ := World.cells?_some (hf ⟨0, by omega⟩).1
        have hc00 := hc0 0 hpos
        have hlen0 := Rep.size (hf ⟨0, by omega⟩).2.1
        obtain ⟨b, off, spot⟩ := a
        have hsome : ∃ v, w.cell? ⟨b, off, spot⟩ = some v := by
          have e1 : (Addr.add ⟨b, off, spot⟩ (0 * Rep.sz α)).add 0 = ⟨b, off, spot⟩ := by simp [Addr.add]
          rw [e1] at hc00
          refine ⟨_, hc00.trans (List.getElem?_eq_getElem (by simpa [hlen0] using hpos))⟩
        obtain ⟨v0, hv0⟩ := hsome
        have hsp : spot = none := by
          cases spot with
          | none => rfl
          | some s => simp [World.cell?] at hv0; split at hv0 <;> simp at hv0
        subst hsp
        have hb : b < w.heap.size := by
          rcases Nat.lt_or_ge b w.heap.size with h | h
          · exact h
          · simp [World.cell?, Array.getElem?_eq_none h] at hv0
        refine ⟨b, off, rfl, fun i x hi => ?_⟩
        have hi' : i < len := by
          have := (List.getElem?_eq_some_iff.1 hi).1
          simpa using this
        have hxe : x = (f ⟨i, hi'⟩).2 := by
          rw [List.getElem?_ofFn, dif_pos hi'] at hi
          simpa using hi.symm
        subst hxe
        refine ⟨(f ⟨i, hi'⟩).1, (hf ⟨i, hi'⟩).2.1, hb, fun h => h.elim, fun j c hj => ?_⟩
        obtain ⟨_, hl2, hc2⟩ := World.cells?_some (hf ⟨i, hi'⟩).1
        have hj' : j < Rep.sz α := by rw [← hl2]; exact (List.getElem?_eq_some_iff.1 hj).1
        have := hc2 j hj'
        rw [addr_add, addr_add, hj] at this
        exact this
    · rw [bulk_all, List.map_map]
      have e1 : (List.range len).map (uptoBulk ∘ D) = List.ofFn fun i : Fin len => uptoBulk (D i.1) := by
        apply List.ext_getElem
        · simp
        · intro i h1 h2
          simp
      have e2 : (List.ofFn fun i => (f i).2).map sz = List.ofFn fun i : Fin len => sz (f i).2 := by rw [List.map_ofFn]; rfl
      rw [e1, e2]
      have key : ∀ (n : Nat) (g h : Fin n → Nat), (∀ i, g i ≤ h i) → (List.ofFn g).sum ≤ (List.ofFn h).sum := by
        intro n
        induction n with
        | zero => intro g h _; simp
        | succ n ih =>
          intro g h hgh
          rw [List.ofFn_succ, List.ofFn_succ, List.sum_cons, List.sum_cons]
          have := ih (fun i => g i.succ) (fun i => h i.succ) (fun i => hgh _)
          have := hgh 0
          omega
      have := key len _ _ (fun i => (hf i).2.2)
      omega
/-- A type's size: its parts and their names. -/
def tsz (t : Ty) : Nat := ((partsL t).map fun x => 1 + x.name.size).sum
theorem tsz_eq (t : Ty) : tsz t = 1 + t.name.size + (t.kids.map tsz).sum := by
  unfold tsz
  rw [partsL_eq, List.map_cons, List.sum_cons]
  congr 1
  induction t.kids with
  | nil => rfl
  | cons k r ih => rw [List.flatMap_cons, List.map_append, List.sum_append, ih, List.map_cons, List.sum_cons]
theorem psz_tsz (t : Ty) : psz t ≤ tsz t := by
  show (partsL t).length ≤ _
  unfold tsz
  induction partsL t with
  | nil => simp
  | cons k r ih => simp only [List.length_cons, List.map_cons, List.sum_cons]; omega
theorem opensD_ty {t tOp tStr tInt tSl : TypeId} {f0 f1 f2 f3 : Field} (ht : P.underlying t = some (.struct #[f0, f1, f2, f3])) (h0 : f0.offset = 0 ∧ f0.type = tOp) (h1 : f1.offset = 1 ∧ f1.type = tStr) (h2 : f2.offset = 2 ∧ f2.type = tInt) (h3 : f3.offset = 3 ∧ f3.type = tSl)
    (uOp : P.underlying tOp = some (.int .u8)) (cOp : P.cellsOf tOp = 1) (uStr : P.underlying tStr = some .string) (cStr : P.cellsOf tStr = 1) (uInt : P.underlying tInt = some (.int .i64)) (cInt : P.cellsOf tInt = 1) (uSl : P.underlying tSl = some (.slice t)) (cSl : P.cellsOf tSl = 1) (cT : P.cellsOf t = 4) :
    ∀ N, N < 140737488355328 → OpensD H (α := Ty) P t N tsz := by
  intro N
  induction N with
  | zero => exact fun _ => ⟨cT, fun enc w fuel cs d ps h hQ => by have := bulk_one d; omega⟩
  | succ N ih =>
    intro hN
    have ihS := opensD_slice (H := H) (P := P) (N + 1) hN uSl cSl (ih (by omega))
    refine ⟨cT, fun enc w fuel cs d ps h hQ => ?_⟩
    obtain ⟨xs, n, _, hx, hl, hxl, hf⟩ := DataW.trod_struct ht h
    cases hx
    rw [cT] at hl
    obtain ⟨c0, c1, c2, c3, rfl⟩ : ∃ c0 c1 c2 c3, cs = [c0, c1, c2, c3] := by
      rcases cs with _ | ⟨c0, _ | ⟨c1, _ | ⟨c2, _ | ⟨c3, _ | ⟨c4, r⟩⟩⟩⟩⟩ <;> simp at hl
      exact ⟨c0, c1, c2, c3, rfl⟩
    obtain ⟨x0, x1, x2, x3, rfl⟩ : ∃ x0 x1 x2 x3, xs = [x0, x1, x2, x3] := by
      rcases xs with _ | ⟨c0, _ | ⟨c1, _ | ⟨c2, _ | ⟨c3, _ | ⟨c4, r⟩⟩⟩⟩⟩ <;> simp at hxl
      exact ⟨c0, c1, c2, c3, rfl⟩
    have g0 := hf 0 f0 rfl
    have g1 := hf 1 f1 rfl
    have g2 := hf 2 f2 rfl
    have g3 := hf 3 f3 rfl
    rw [h0.1, h0.2, cOp] at g0
    rw [h1.1, h1.2, cStr] at g1
    rw [h2.1, h2.2, cInt] at g2
    rw [h3.1, h3.2, cSl] at g3
    simp only [List.drop_zero, List.drop_succ_cons, List.take_succ_cons, List.take_zero, List.getElem?_cons_zero, List.getElem?_cons_succ] at g0 g1 g2 g3
    rw [bulk_agg] at hQ ⊢
    simp only [List.map_cons, List.map_nil, uptoBulkAll] at hQ ⊢
    obtain ⟨op, e0, _, w0⟩ := DataW.trod_int uOp g0
    obtain ⟨v1, s, e1, r1, z1⟩ := (opensD_string (H := H) (P := P) (N + 1) hN uStr cStr).read enc w n _ _ _ g1 (by omega)
    obtain ⟨v2, m, e2, r2, _⟩ := (opensD_int (H := H) (P := P) (N + 1) uInt cInt).read enc w n _ _ _ g2 (by omega)
    obtain ⟨v3, l, e3, r3, z3⟩ := ihS.read enc w n _ _ _ g3 (by omega)
    obtain ⟨rfl, hs⟩ := r1
    obtain ⟨rfl, hm⟩ := r2
    have hop : 0 ≤ op ∧ op ≤ 255 := by simpa [Lit.wf, IntKind.min, IntKind.max, IntKind.signed, IntKind.bits] using w0
    have r3' : Sl NoM w v3 l := r3
    have e3' := r3'.cells
    refine ⟨.agg #[.int .u8 op, .string s, .int .i64 m, v3], .mk op s m l, ?_, ty_mk hop hs hm r3', ?_⟩
    · rw [e3'] at e3
      simp [Value.cells] at e0 e1 e2 e3 ⊢
      simp [*]
    · rw [tsz_eq]
      show 1 + s.size + (l.map tsz).sum ≤ _
      have := bulk_one x0.1
      have := bulk_one x2.1
      omega
theorem opensD_arg {α : Type} [Rep α] {sz : α → Nat} {t : TypeId} {N : Nat} (ho : OpensD H P t N sz) {enc : TypeId × Value → H} {w : World} {v : Value} {d : DataW H} {ps : List MemPlace}
    (h : DataW.Trod enc P w 0 (fun _ => true) true t v d ps) (hd : uptoBulk d ≤ N) : ∃ (u : Value) (x : α), u.cells = v.cells ∧ Rep.R NoM w u x ∧ sz x ≤ N := by
  obtain ⟨fuel, hf⟩ := h
  obtain ⟨u, x, hv, hR, hp⟩ := ho.read enc w fuel _ _ _ hf hd
  exact ⟨u, x, Array.toList_inj.1 hv, hR, by omega⟩
end
theorem agg_of {u : Value} {a : Array Value} (h : u.cells = (Value.agg a).cells) (hu : ∃ b, u = .agg b) : u = .agg a := by
  obtain ⟨b, rfl⟩ := hu
  simp [Value.cells] at h
  rw [h]
theorem ty_agg {M : Nat → Prop} {w : World} {v : Value} {t : Ty} (h : Rep.R M w v t) : ∃ b, v = .agg b := let ⟨_, h1, _⟩ := ty_open h; ⟨_, h1⟩
end Rw
namespace Rw
open Go Go.RowKit
open Go.Proofs.Ytohfnpmehgpphaa.Rows (uptoBulk uptoBulkAll uptoSmall)
/-- An expression's size: its nodes, their names, their annotations. -/
def tmsz (t : Tm) : Nat := ((nodesL t).map fun x => 1 + x.name.size + x.arg.size + tsz x.ann).sum
theorem tmsz_eq (t : Tm) : tmsz t = 1 + t.name.size + t.arg.size + tsz t.ann + (t.kids.map tmsz).sum := by
  unfold tmsz
  rw [nodesL_eq, List.map_cons, List.sum_cons]
  congr 1
  induction t.kids with
  | nil => rfl
  | cons k r ih => rw [List.flatMap_cons, List.map_append, List.sum_append, ih, List.map_cons, List.sum_cons]
theorem sum_in {α : Type} (f : α → Nat) : ∀ (l : List α) (x : α), x ∈ l → f x ≤ (l.map f).sum
  | y :: l, x, h => by
    rw [List.map_cons, List.sum_cons]
    rcases List.mem_cons.1 h with rfl | h
    · omega
    · have := sum_in f l x h; omega
theorem sum_len {α : Type} (f : α → Nat) (hf : ∀ x, 1 ≤ f x) : ∀ (l : List α), l.length ≤ (l.map f).sum
  | [] => Nat.le_refl _
  | y :: l => by
    have h1 := sum_len f hf l
    have h2 := hf y
    rw [List.map_cons, List.sum_cons, List.length_cons]; omega
theorem nsz_tmsz (t : Tm) : nsz t ≤ tmsz t := sum_len _ (fun x => by omega) _
theorem ann_tmsz {t x : Tm} (h : x ∈ nodesL t) : psz x.ann ≤ tmsz t := by
  have h1 := sum_in (fun x => 1 + x.name.size + x.arg.size + tsz x.ann) (nodesL t) x h
  have h2 := psz_tsz x.ann
  have h3 : ((nodesL t).map fun x => 1 + x.name.size + x.arg.size + tsz x.ann).sum = tmsz t := rfl
  omega
theorem annS_tmsz {t : Tm} (h : tmsz t ≤ 2000000) : AnnS t := fun x hx => by have := ann_tmsz hx; omega
theorem asz_tmsz (t : Tm) : asz t ≤ tmsz t := by
  unfold asz tmsz
  refine sum_le _ _ _ (fun x _ => ?_)
  have := psz_tsz x.ann
  omega
theorem tm_agg {w : World} {M : Nat → Prop} {u : Value} {t : Tm} (h : Rep.R M w u t) : ∃ a, u = .agg a := by
  obtain ⟨akv, kv, e, _⟩ := tm_open h
  exact ⟨_, e⟩
section
variable {H : Type} {P : Program}
theorem opensD_bool {t : TypeId} (N : Nat) (ht : P.underlying t = some .bool) (hc : P.cellsOf t = 1) : OpensD H (α := Bool) P t N (fun _ => 1) := by
  refine ⟨hc, fun enc w fuel cs d ps h _ => ?_⟩
  obtain ⟨b, rfl, e⟩ := DataW.trod_bool ht h
  cases e
  exact ⟨.bool b, b, rfl, rfl, bulk_one _⟩
theorem opensD_tm {t tOp tStr tInt tBool tTy tSl : TypeId} {f0 f1 f2 f3 f4 f5 f6 : Field} (ht : P.underlying t = some (.struct #[f0, f1, f2, f3, f4, f5, f6])) (h0 : f0.offset = 0 ∧ f0.type = tOp) (h1 : f1.offset = 1 ∧ f1.type = tStr) (h2 : f2.offset = 2 ∧ f2.type = tStr)
    (h3 : f3.offset = 3 ∧ f3.type = tInt) (h4 : f4.offset = 4 ∧ f4.type = tBool) (h5 : f5.offset = 5 ∧ f5.type = tTy) (h6 : f6.offset = 9 ∧ f6.type = tSl)
    (uOp : P.underlying tOp = some (.int .u8)) (cOp : P.cellsOf tOp = 1) (uStr : P.underlying tStr = some .string) (cStr : P.cellsOf tStr = 1) (uInt : P.underlying tInt = some (.int .i64)) (cInt : P.cellsOf tInt = 1) (uBool : P.underlying tBool = some .bool) (cBool : P.cellsOf tBool = 1)
    (uSl : P.underlying tSl = some (.slice t)) (cSl : P.cellsOf tSl = 1) (oT : ∀ N, N < 140737488355328 → OpensD H (α := Ty) P tTy N tsz) (cT : P.cellsOf t = 10) :
    ∀ N, N < 140737488355328 → OpensD H (α := Tm) P t N tmsz := by
  intro N
  induction N with
  | zero => exact fun _ => ⟨cT, fun enc w fuel cs d ps h hQ => by have := bulk_one d; omega⟩
  | succ N ih =>
    intro hN
    have ihS := opensD_slice (H := H) (P := P) (N + 1) hN uSl cSl (ih (by omega))
    refine ⟨cT, fun enc w fuel cs d ps h hQ => ?_⟩
    obtain ⟨xs, n, _, hx, hl, hxl, hf⟩ := DataW.trod_struct ht h
    cases hx
    rw [cT] at hl
    obtain ⟨c0, c1, c2, c3, c4, c5, c6, c7, c8, c9, rfl⟩ : ∃ c0 c1 c2 c3 c4 c5 c6 c7 c8 c9, cs = [c0, c1, c2, c3, c4, c5, c6, c7, c8, c9] := by
      rcases cs with _ | ⟨c0, _ | ⟨c1, _ | ⟨c2, _ | ⟨c3, _ | ⟨c4, _ | ⟨c5, _ | ⟨c6, _ | ⟨c7, _ | ⟨c8, _ | ⟨c9, _ | ⟨c10, r⟩⟩⟩⟩⟩⟩⟩⟩⟩⟩⟩ <;> simp at hl
      exact ⟨c0, c1, c2, c3, c4, c5, c6, c7, c8, c9, rfl⟩
    obtain ⟨x0, x1, x2, x3, x4, x5, x6, rfl⟩ : ∃ x0 x1 x2 x3 x4 x5 x6, xs = [x0, x1, x2, x3, x4, x5, x6] := by
      rcases xs with _ | ⟨c0, _ | ⟨c1, _ | ⟨c2, _ | ⟨c3, _ | ⟨c4, _ | ⟨c5, _ | ⟨c6, _ | ⟨c7, r⟩⟩⟩⟩⟩⟩⟩⟩ <;> simp at hxl
      exact ⟨c0, c1, c2, c3, c4, c5, c6, rfl⟩
    have g0 := hf 0 f0 rfl
    have g1 := hf 1 f1 rfl
    have g2 := hf 2 f2 rfl
    have g3 := hf 3 f3 rfl
    have g4 := hf 4 f4 rfl
    have g5 := hf 5 f5 rfl
    have g6 := hf 6 f6 rfl
    rw [h0.1, h0.2, cOp] at g0
    rw [h1.1, h1.2, cStr] at g1
    rw [h2.1, h2.2, cStr] at g2
    rw [h3.1, h3.2, cInt] at g3
    rw [h4.1, h4.2, cBool] at g4
    rw [h5.1, h5.2, (oT (N + 1) hN).cells, show Rep.sz Ty = 4 from rfl] at g5
    rw [h6.1, h6.2, cSl] at g6
    simp only [List.drop_zero, List.drop_succ_cons, List.take_succ_cons, List.take_zero, List.getElem?_cons_zero, List.getElem?_cons_succ] at g0 g1 g2 g3 g4 g5 g6
    rw [bulk_agg] at hQ ⊢
    simp only [List.map_cons, List.map_nil, uptoBulkAll] at hQ ⊢
    obtain ⟨op, e0, _, w0⟩ := DataW.trod_int uOp g0
    obtain ⟨v1, s, e1, r1, z1⟩ := (opensD_string (H := H) (P := P) (N + 1) hN uStr cStr).read enc w n _ _ _ g1 (by omega)
    obtain ⟨v2, ar, e2, r2, z2⟩ := (opensD_string (H := H) (P := P) (N + 1) hN uStr cStr).read enc w n _ _ _ g2 (by omega)
    obtain ⟨v3, m, e3, r3, _⟩ := (opensD_int (H := H) (P := P) (N + 1) uInt cInt).read enc w n _ _ _ g3 (by omega)
    obtain ⟨v4, b, e4, r4, _⟩ := (opensD_bool (H := H) (P := P) (N + 1) uBool cBool).read enc w n _ _ _ g4 (by omega)
    obtain ⟨v5, a, e5, r5, z5⟩ := (oT (N + 1) hN).read enc w n _ _ _ g5 (by omega)
    obtain ⟨v6, l, e6, r6, z6⟩ := ihS.read enc w n _ _ _ g6 (by omega)
    obtain ⟨rfl, hs⟩ := r1
    obtain ⟨rfl, har⟩ := r2
    obtain ⟨rfl, hm⟩ := r3
    obtain rfl : v4 = .bool b := r4
    obtain ⟨akv, rfl, _⟩ := ty_open r5
    have hop : 0 ≤ op ∧ op ≤ 255 := by simpa [Lit.wf, IntKind.min, IntKind.max, IntKind.signed, IntKind.bits] using w0
    have r6' : Sl NoM w v6 l := r6
    have e6' := r6'.cells
    refine ⟨.agg #[.int .u8 op, .string s, .string ar, .int .i64 m, .bool b, .int .u8 a.op, .string a.name, .int .i64 a.n, akv, v6], .mk op s ar m b a l, ?_, tm_mk hop hs har hm r5 r6', ?_⟩
    · rw [e6'] at e6
      simp [Value.cells] at e0 e1 e2 e3 e4 e5 e6 ⊢
      simp [*]
    · rw [tmsz_eq]
      show 1 + s.size + ar.size + tsz a + (l.map tmsz).sum ≤ _
      have := bulk_one x0.1
      have := bulk_one x3.1
      omega
end
end Rw
namespace Rw
open Go Go.RowKit
/-! ## Got again -/
theorem kidsE_put {α : Type} {g : List UInt8 → Bool → α × List UInt8 × Bool} {p : α → List UInt8} {n : Nat} : ∀ (kids : List α) (r : List UInt8), (∀ k ∈ kids, ∀ r, (p k ++ r).length ≤ n → g (p k ++ r) false = (k, r, false)) → (kids.flatMap p ++ r).length ≤ n → kidsE g kids.length (kids.flatMap p ++ r) false = (kids, r, false)
  | [], r, _, _ => rfl
  | k :: kids, r, h, hn => by
    rw [List.length_cons, kidsE_step rfl, List.flatMap_cons, List.append_assoc]
    rw [List.flatMap_cons, List.append_assoc] at hn
    rw [h k List.mem_cons_self _ hn]
    simp only
    rw [kidsE_put kids r (fun k hk => h k (List.mem_cons_of_mem _ hk)) (by rw [List.length_append] at hn; omega)]
theorem byte_back {op : Int} (h : 0 ≤ op ∧ op ≤ 255) : ((UInt8.ofNat op.toNat).toNat : Int) = op := by
  rw [UInt8.toNat_ofNat']; omega
/-- A type's numbers are numbers. -/
def nT (t : Ty) : Prop := ∀ x ∈ partsL t, I64 x.n
def nM (t : Tm) : Prop := ∀ x ∈ nodesL t, I64 x.n ∧ nT x.ann
theorem nT.kid {t k : Ty} (h : nT t) (hk : k ∈ t.kids) : nT k := fun x hx => h x (by rw [partsL_eq]; exact List.mem_cons_of_mem _ (List.mem_flatMap.2 ⟨k, hk, hx⟩))
theorem nM.kid {t k : Tm} (h : nM t) (hk : k ∈ t.kids) : nM k := fun x hx => h x (by rw [nodesL_eq]; exact List.mem_cons_of_mem _ (List.mem_flatMap.2 ⟨k, hk, hx⟩))
theorem Sl.each {α : Type} [Rep α] {M : Nat → Prop} {w : World} {v : Value} {l : List α} (h : Sl M w v l) : ∀ x ∈ l, ∃ u, Rep.R M w u x := by
  intro x hx
  obtain ⟨a, c, _, _, _, he⟩ := h
  obtain ⟨i, hi, rfl⟩ := List.getElem_of_mem hx
  rcases he with he | ⟨b, off, _, hx2⟩
  · subst he; cases hi
  · obtain ⟨u, hu, _⟩ := hx2 i _ (List.getElem?_eq_getElem hi)
    exact ⟨u, hu⟩
theorem rep_nT {M : Nat → Prop} {w : World} (t : Ty) : ∀ v, Rep.R M w v t → nT t := by
  refine Ty.ind (p := fun t => ∀ v, Rep.R M w v t → nT t) (fun t ih => ?_) t
  intro v h x hx
  obtain ⟨kv, _, _, _, hn, hk⟩ := ty_open h
  rw [partsL_eq] at hx
  rcases List.mem_cons.1 hx with rfl | hx
  · exact hn
  · obtain ⟨k, hkm, hxk⟩ := List.mem_flatMap.1 hx
    obtain ⟨u, hu⟩ := hk.each k hkm
    exact ih k hkm u hu x hxk
theorem rep_nM {M : Nat → Prop} {w : World} (t : Tm) : ∀ v, Rep.R M w v t → nM t := by
  refine Tm.ind (p := fun t => ∀ v, Rep.R M w v t → nM t) (fun t ih => ?_) t
  intro v h x hx
  obtain ⟨akv, kv, _, _, _, _, hn, ha, hk⟩ := tm_open h
  rw [nodesL_eq] at hx
  rcases List.mem_cons.1 hx with rfl | hx
  · exact ⟨hn, rep_nT _ _ ha⟩
  · obtain ⟨k, hkm, hxk⟩ := List.mem_flatMap.1 hx
    obtain ⟨u, hu⟩ := hk.each k hkm
    exact ih k hkm u hu x hxk
theorem word_small {s : ByteArray} (h : isWordB s = true) : s.size ≤ 32 := by
  unfold isWordB at h
  simp only [Bool.and_eq_true, decide_eq_true_eq] at h
  omega
theorem u64_pos {n : Int} (h : 0 ≤ n) (hn : I64 n) : (u64 n : Int) = n ∧ u64 n < 9223372036854775808 := by
  unfold I64 at hn
  unfold u64
  omega
theorem op_in {op : Int} {ks : ByteArray} (h : kidsOf op = some ks) : 1 ≤ op ∧ op ≤ 11 := by
  unfold kidsOf at h
  (repeat' split at h) <;> first | omega | cases h
theorem kindE_put (t : Ty) : ∀ c, shapeF t c = true → nT t → ∀ (f : Nat) (r : List UInt8), (typeB t ++ r).length < f → kindE f (typeB t ++ r) false = (t, r, false) := by
  refine Ty.ind (p := fun t => ∀ c, shapeF t c = true → nT t → ∀ (f : Nat) (r : List UInt8), (typeB t ++ r).length < f → kindE f (typeB t ++ r) false = (t, r, false)) (fun t ih => ?_) t
  intro c h hn f r hf
  obtain ⟨ks, hk, hl, hall, hh, _⟩ := shape_pos h
  have hop := op_in hk
  have hn0 : I64 t.n := hn t (by rw [partsL_eq]; exact List.mem_cons_self)
  obtain ⟨f, rfl⟩ : ∃ g, f = g + 1 := ⟨f - 1, by omega⟩
  have hb : ((UInt8.ofNat t.op.toNat).toNat : Int) = t.op := byte_back (by omega)
  have hcons : typeB t ++ r = UInt8.ofNat t.op.toNat :: ((if t.op = 7 ∨ t.op = 10 then numY (u64 t.n) else if t.op = 11 then textB t.name else []) ++ (t.kids.flatMap typeB ++ r)) := by
    rw [typeB_eq, headY, List.cons_append, List.cons_append, List.append_assoc]
  rw [hcons] at hf ⊢
  rw [kindE]
  simp only [List.headD_cons, List.tail_cons]
  generalize hB : UInt8.ofNat t.op.toNat = B at hb
  have hhead : kheadE B ((if t.op = 7 ∨ t.op = 10 then numY (u64 t.n) else if t.op = 11 then textB t.name else []) ++ (t.kids.flatMap typeB ++ r)) false = (t.n, t.name, t.kids.flatMap typeB ++ r, false) := by
    unfold headOk at hh
    unfold kheadE
    by_cases h7 : t.op = 7 ∨ t.op = 10
    · rw [if_pos h7, if_pos (by omega)]
      have h0 : 0 ≤ t.n := by simp at hh; omega
      obtain ⟨e1, e2⟩ := u64_pos h0 hn0
      rw [numE_num e2]
      have hnm : t.name = ⟨#[]⟩ := by
        rcases h7 with h7 | h7 <;> · rw [h7] at hh; simp at hh; exact hh.1
      simp only [e1, hnm]
    · rw [if_neg h7, if_neg (by omega)]
      have h0 : t.n = 0 := by simp at hh; omega
      by_cases h11 : t.op = 11
      · rw [if_pos h11, if_pos (by omega)]
        have hw : isWordB t.name = true := by rw [h11] at hh; simp at hh; exact hh.1
        rw [textE_text (by have := word_small hw; omega), h0]
      · rw [if_neg h11, if_neg (by omega)]
        have hnm : t.name = ⟨#[]⟩ := by simp [h11] at hh; exact hh.1
        rw [h0, hnm]; rfl
  have hkc : kcnt B = t.kids.length := by
    rw [hl, kcnt_size (c := B) (s := ks) (by rw [hb]; exact hk)]
  rw [show (false || (B :: ((if t.op = 7 ∨ t.op = 10 then numY (u64 t.n) else if t.op = 11 then textB t.name else []) ++ (t.kids.flatMap typeB ++ r))).isEmpty) = false from rfl, hhead, hkc]
  simp only
  rw [kidsE_put (n := f - 1) t.kids r (fun k hkm r hr => ?_) (by rw [List.length_cons, List.length_append] at hf; omega)]
  · rw [hb, ← ty_eta]
  · obtain ⟨j, hj, rfl⟩ := List.getElem_of_mem hkm
    have hjd : j < ks.data.size := by rw [hl] at hj; exact hj
    have hf1 : 0 < f := by rw [List.length_cons] at hf; omega
    exact ih _ hkm _ (hall j _ _ (List.getElem?_eq_getElem hj) (Array.getElem?_eq_getElem hjd)) (hn.kid hkm) f r (by omega)
theorem kidsT_all {op : Int} : ∀ (l : List Tm) (i : Nat), kidsT op i (kidL l) = true → ∀ k ∈ l, ∃ b, rightT k b = true
  | [], _, _, k, hk => by cases hk
  | y :: l, i, h, k, hk => by
    have h' : kidsT op i ((y.op, rightT y) :: kidL l) = true := h
    rw [kidsT] at h'
    simp only [Bool.and_eq_true] at h'
    rcases List.mem_cons.1 hk with rfl | hk
    · exact ⟨_, h'.2.1⟩
    · exact kidsT_all l _ h'.2.2 k hk
theorem named_no {s : ByteArray} (h : namedB s false = true) : s = ⟨#[]⟩ := by unfold namedB at h; simpa using h
theorem named_yes {s : ByteArray} (h : namedB s true = true) : s.size ≤ 32 := by unfold namedB at h; simp at h; exact word_small h
theorem sign_small {s : ByteArray} (h : signB s = true) : s.size ≤ 32 := by
  unfold signB at h
  simp only [Bool.or_eq_true, decide_eq_true_eq] at h
  rcases h with h | h | h | h | h | h | h <;> subst h <;> decide
theorem blank_is {t : Ty} (h : blankB t = true) : t = .mk 0 ⟨#[]⟩ 0 [] := by
  unfold blankB at h
  simp only [Bool.and_eq_true, decide_eq_true_eq] at h
  exact Ty.ext' h.1 h.2.1 h.2.2.1 h.2.2.2
theorem right_node {t : Tm} {arm : Bool} (h : rightT t arm = true) : (¬ (t.op < 32 ∨ 52 ≤ t.op)) ∧ ((prt t.op).1 = false → t.name = ⟨#[]⟩) ∧ t.name.size ≤ 32 ∧ ((prt t.op).2.1 = false → t.arg = ⟨#[]⟩) ∧ t.arg.size ≤ 32 ∧ 0 ≤ t.n ∧ ((prt t.op).2.2.1 = false → t.n = 0) ∧
    (t.has = true → ((prt t.op).2.2.2 = 1 ∨ (prt t.op).2.2.2 = 2) ∧ rightB t.ann = true) ∧ (t.has = false → (prt t.op).2.2.2 ≠ 2 ∧ t.ann = .mk 0 ⟨#[]⟩ 0 []) ∧ (t.op ≠ 48 → (cnt t.op).toNat = t.kids.length) ∧ (∀ k ∈ t.kids, ∃ b, rightT k b = true) := by
  rw [rightT_eq] at h
  simp only [Bool.and_eq_true] at h
  obtain ⟨hh, hk⟩ := h
  unfold headT at hh
  simp only [Bool.and_eq_true] at hh
  obtain ⟨h0, _, hnum, hnote, harg, hname, hkids⟩ := hh
  have hv : ¬ (t.op < 32 ∨ 52 ≤ t.op) := fun e => by rw [shp_no e] at h0; cases h0
  have hfacts : (prt t.op).1 = ((shp t.op).1 || decide (t.op = 40)) ∧ (prt t.op).2.1 = (shp t.op).2.1 ∧ (prt t.op).2.2.1 = (decide (t.op = 33) || decide (t.op = 34)) ∧ (prt t.op).2.2.2 = (shp t.op).2.2.2.1 ∧ (t.op ≠ 48 → cnt t.op = (shp t.op).2.2.1 ∧ 0 ≤ (shp t.op).2.2.1) ∧ ((shp t.op).2.2.2.1 = 0 ∨ (shp t.op).2.2.2.1 = 1 ∨ (shp t.op).2.2.2.1 = 2) ∧ (decide (t.op = 40) = true → (prt t.op).1 = true) := by
    rcases op_cases hv with e | e | e | e | e | e | e | e | e | e | e | e | e | e | e | e | e | e | e | e <;> rw [e] <;> exact ⟨by decide, by decide, by decide, by decide, by decide, by decide, by decide⟩
  obtain ⟨g1, g2, g3, g4, g5, g6, g7⟩ := hfacts
  refine ⟨hv, fun e => ?_, ?_, fun e => ?_, ?_, ?_, fun e => ?_, fun e => ?_, fun e => ?_, fun e => ?_, kidsT_all _ _ hk⟩
  · cases h40 : decide (t.op = 40) with
    | true => rw [g7 h40] at e; cases e
    | false =>
      rw [h40] at hname g1
      rw [e, Bool.or_false] at g1
      rw [← g1] at hname
      exact named_no hname
  · cases h40 : decide (t.op = 40) with
    | true => rw [h40] at hname; exact sign_small hname
    | false =>
      rw [h40] at hname
      simp only [cond_false] at hname
      cases hs : (shp t.op).1 with
      | true => rw [hs] at hname; exact named_yes hname
      | false => rw [hs] at hname; rw [named_no hname]; decide
  · rw [← g2, e] at harg; exact named_no harg
  · cases hs : (shp t.op).2.1 with
    | true => rw [hs] at harg; exact named_yes harg
    | false => rw [hs] at harg; rw [named_no harg]; decide
  · unfold numberB at hnum
    split at hnum
    · simpa using hnum
    · split at hnum
      · simp at hnum; omega
      · simp at hnum; omega
  · rw [g3] at e
    simp at e
    unfold numberB at hnum
    rw [if_neg e.1, if_neg e.2] at hnum
    simpa using hnum
  · unfold notedB at hnote
    rw [e] at hnote
    simp only [cond_true, Bool.and_eq_true, decide_eq_true_eq] at hnote
    rw [g4]
    exact ⟨by omega, hnote.2.1⟩
  · unfold notedB at hnote
    rw [e] at hnote
    simp only [cond_false, Bool.and_eq_true, decide_eq_true_eq] at hnote
    rw [g4]
    exact ⟨by omega, blank_is hnote.2⟩
  · obtain ⟨g8, g9⟩ := g5 e
    rw [decide_eq_true g9] at hkids
    simp only [cond_true, decide_eq_true_eq] at hkids
    omega
theorem eT_put {k : Bool} {s : ByteArray} (hs : s.size ≤ 32) (h : k = false → s = ⟨#[]⟩) (r : List UInt8) : eT k ((bif k then textB s else []) ++ r) false = (s, r, false) := by
  cases k with
  | true => exact textE_text (by omega) r
  | false => rw [h rfl]; rfl
theorem eN_put {k : Bool} {n : Int} (hn : I64 n) (h0 : 0 ≤ n) (h : k = false → n = 0) (r : List UInt8) : (((eN k ((bif k then numY (u64 n) else []) ++ r) false).1 : Nat) : Int) = n ∧ (eN k ((bif k then numY (u64 n) else []) ++ r) false).2 = (r, false) := by
  obtain ⟨e1, e2⟩ := u64_pos h0 hn
  cases k with
  | true =>
    have := numE_num e2 r
    show (((numE (numY (u64 n) ++ r) false).1 : Nat) : Int) = n ∧ (numE (numY (u64 n) ++ r) false).2 = (r, false)
    rw [this]
    exact ⟨e1, rfl⟩
  | false => rw [h rfl]; exact ⟨rfl, rfl⟩
theorem eH_put {a : Int} {has : Bool} (h1 : has = true → a = 1 ∨ a = 2) (h2 : has = false → a ≠ 2) (r : List UInt8) : eH a ((bif decide (a = 1) then [bif has then (1 : UInt8) else 0] else []) ++ r) false = (has, r, false) := by
  unfold eH
  by_cases ha : a = 1
  · rw [decide_eq_true ha]
    cases has <;> rfl
  · rw [decide_eq_false ha]
    cases has with
    | true => rw [show a = 2 by have := h1 rfl; omega]; rfl
    | false => rw [decide_eq_false (h2 rfl)]; rfl
theorem flat_ge {α : Type} {p : α → List UInt8} (hp : ∀ x, 1 ≤ (p x).length) : ∀ l : List α, l.length ≤ (l.flatMap p).length
  | [] => Nat.le_refl _
  | x :: l => by have := flat_ge hp l; have := hp x; rw [List.flatMap_cons, List.length_append, List.length_cons]; omega
theorem termB_one (t : Tm) : 1 ≤ (termB t).length := by
  rw [termB_eq, headE, o1]; simp only [List.length_append, List.length_cons]; omega
theorem termE_put (t : Tm) : ∀ b, rightT t b = true → nM t → ∀ (f : Nat) (r : List UInt8), (termB t ++ r).length < f → f ≤ 1000000000 → termE f (termB t ++ r) false = (t, r, false) := by
  refine Tm.ind (p := fun t => ∀ b, rightT t b = true → nM t → ∀ (f : Nat) (r : List UInt8), (termB t ++ r).length < f → f ≤ 1000000000 → termE f (termB t ++ r) false = (t, r, false)) (fun t ih => ?_) t
  intro b h hn f r hf hfb
  obtain ⟨hv, n1, n2, a1, a2, m1, m2, x1, x2, kc, hall⟩ := right_node h
  have hn0 := hn t (by rw [nodesL_eq]; exact List.mem_cons_self)
  obtain ⟨f, rfl⟩ : ∃ g, f = g + 1 := ⟨f - 1, by omega⟩
  have hb : ((UInt8.ofNat t.op.toNat).toNat : Int) = t.op := byte_back (by omega)
  generalize hB : UInt8.ofNat t.op.toNat = B at hb
  obtain ⟨R6, h6⟩ : ∃ x, x = t.kids.flatMap termB ++ r := ⟨_, rfl⟩
  obtain ⟨R5, h5⟩ : ∃ x, x = (bif decide (cnt t.op < 0) then numY t.kids.length else []) ++ R6 := ⟨_, rfl⟩
  obtain ⟨R4, h4⟩ : ∃ x, x = (bif t.has then typeB t.ann else []) ++ R5 := ⟨_, rfl⟩
  obtain ⟨R3, h3⟩ : ∃ x, x = (bif decide ((prt t.op).2.2.2 = 1) then [bif t.has then (1 : UInt8) else 0] else []) ++ R4 := ⟨_, rfl⟩
  obtain ⟨R2, h2⟩ : ∃ x, x = (bif (prt t.op).2.2.1 then numY (u64 t.n) else []) ++ R3 := ⟨_, rfl⟩
  obtain ⟨R1, h1⟩ : ∃ x, x = (bif (prt t.op).2.1 then textB t.arg else []) ++ R2 := ⟨_, rfl⟩
  obtain ⟨L, hL⟩ : ∃ x, x = B :: ((bif (prt t.op).1 then textB t.name else []) ++ R1) := ⟨_, rfl⟩
  have hcons : termB t ++ r = L := by
    rw [hL, h1, h2, h3, h4, h5, h6, ← hB, termB_eq, headE, o1, o2, o3, o4, o5, o6]
    simp only [List.append_assoc, List.cons_append]
  rw [hcons] at hf ⊢
  have l0 : (e0 L false).1 = t.op ∧ (e0 L false).2.2 = false ∧ (e0 L false).2.1 = (bif (prt t.op).1 then textB t.name else []) ++ R1 := by subst hL; exact ⟨hb, rfl, rfl⟩
  have l1 : e1 L false = (t.name, R1, false) := by
    unfold e1
    rw [l0.1, l0.2.1, l0.2.2]
    exact eT_put n2 n1 _
  have l2 : e2 L false = (t.arg, R2, false) := by
    unfold e2
    rw [l0.1, l1]
    show eT _ R1 false = _
    rw [h1]
    exact eT_put a2 a1 _
  have l3 : (((e3 L false).1 : Nat) : Int) = t.n ∧ (e3 L false).2 = (R3, false) := by
    unfold e3
    rw [l0.1, l2]
    show ((((eN _ R2 false).1 : Nat) : Int) = _ ∧ (eN _ R2 false).2 = _)
    rw [h2]
    exact eN_put hn0.1 m1 m2 _
  have l4 : e4 L false = (t.has, R4, false) := by
    unfold e4
    rw [l0.1, l3.2]
    show eH _ R3 false = _
    rw [h3]
    exact eH_put (fun e => (x1 e).1) (fun e => (x2 e).1) _
  have hlen : L.length = 1 + (bif (prt t.op).1 then textB t.name else []).length + R1.length ∧ R1.length = (bif (prt t.op).2.1 then textB t.arg else []).length + R2.length ∧ R2.length = (bif (prt t.op).2.2.1 then numY (u64 t.n) else []).length + R3.length ∧
      R3.length = (bif decide ((prt t.op).2.2.2 = 1) then [bif t.has then (1 : UInt8) else 0] else []).length + R4.length ∧ R4.length = (bif t.has then typeB t.ann else []).length + R5.length ∧ R5.length = (bif decide (cnt t.op < 0) then numY t.kids.length else []).length + R6.length ∧ R6.length = (t.kids.flatMap termB).length + r.length := by
    refine ⟨?_, ?_, ?_, ?_, ?_, ?_, ?_⟩
    · rw [hL, List.length_cons, List.length_append]; omega
    · rw [h1, List.length_append]
    · rw [h2, List.length_append]
    · rw [h3, List.length_append]
    · rw [h4, List.length_append]
    · rw [h5, List.length_append]
    · rw [h6, List.length_append]
  have l5 : e5 L false = (t.ann, R5, false) := by
    unfold e5
    rw [l4]
    show eA t.has R4 false = _
    rw [h4]
    unfold eA
    cases hh : t.has with
    | true =>
      simp only [cond_true]
      have hs : shapeF t.ann 116 = true := by have := (x1 hh).2; unfold rightB at this; simp only [Bool.and_eq_true] at this; exact this.1
      exact kindE_put t.ann _ hs hn0.2 _ _ (Nat.lt_succ_self _)
    | false => rw [(x2 hh).2]; rfl
  have hkl := flat_ge termB_one t.kids
  have hkl2 : t.kids.length < 1000000000 := by omega
  have l6 : e6 L false = (t.kids.length, R6, false) := by
    unfold e6
    rw [l0.1, l5]
    show eC _ R5 false = _
    rw [h5]
    unfold eC
    by_cases hc : cnt t.op < 0
    · rw [decide_eq_true hc]
      simp only [cond_true]
      have hne := numE_num (n := t.kids.length) (by omega) R6
      rw [decide_eq_false (by rw [hne]; show ¬ R6.length < t.kids.length; omega), cond_false, hne]
    · rw [decide_eq_false hc]
      simp only [cond_false, List.nil_append]
      rw [kc (fun e => hc (by rw [e]; decide))]
  rw [termE, l6]
  simp only
  rw [h6, kidsE_put (n := f - 1) t.kids r (fun k hkm r hr => ?_) (by rw [List.length_append]; omega)]
  · rw [l0.1, l1, l2, l3.1, l4, l5]
    simp only
    rw [← tm_eta]
  · obtain ⟨b', hb'⟩ := hall k hkm
    exact ih k hkm b' hb' (hn.kid hkm) f r (by omega) (by omega)
/-! ## How many bytes -/
theorem sum_lin {α : Type} {f g h : α → Nat} {a b : Nat} : ∀ (l : List α), (∀ x ∈ l, f x ≤ a * g x + b * h x) → (l.map f).sum ≤ a * (l.map g).sum + b * (l.map h).sum
  | [], _ => by simp
  | x :: l, hx => by
    have h1 := sum_lin l (fun y hy => hx y (List.mem_cons_of_mem _ hy))
    have h2 := hx x List.mem_cons_self
    simp only [List.map_cons, List.sum_cons, Nat.mul_add]; omega
def hl1 (x : Ty) : Nat := 11 + (if x.op = 11 then 10 + x.name.size else 0)
theorem typeB_sum (t : Ty) : (typeB t).length ≤ ((partsL t).map hl1).sum := by
  refine Ty.ind (p := fun t => (typeB t).length ≤ ((partsL t).map hl1).sum) (fun t ih => ?_) t
  rw [typeB_eq, partsL_eq, List.length_append, List.map_cons, List.sum_cons]
  have h1 : (headY t.op t.name t.n).length ≤ hl1 t := by
    unfold headY hl1
    have := numY_len (u64 t.n)
    have := textB_len t.name
    rw [List.length_cons]
    split
    · omega
    · split
      · omega
      · simp
  have h2 : ∀ l : List Ty, (∀ k ∈ l, (typeB k).length ≤ ((partsL k).map hl1).sum) → (l.flatMap typeB).length ≤ ((l.flatMap partsL).map hl1).sum := by
    intro l
    induction l with
    | nil => intro _; exact Nat.le_refl _
    | cons k l ihl =>
      intro h
      have e1 := ihl (fun y hy => h y (List.mem_cons_of_mem _ hy))
      have e2 := h k List.mem_cons_self
      rw [List.flatMap_cons, List.flatMap_cons, List.length_append, List.map_append, List.sum_append]; omega
  have := h2 t.kids ih
  omega
theorem typeB_tsz (t : Ty) : (typeB t).length ≤ 21 * tsz t := by
  have h := typeB_sum t
  have h2 : ((partsL t).map hl1).sum ≤ 21 * tsz t + 0 * ((partsL t).map fun _ => 0).sum := sum_lin _ (fun x _ => by unfold hl1; split <;> omega)
  omega
theorem shape_parts {t : Ty} : ∀ c, shapeF t c = true → ∀ x ∈ partsL t, x.name.size ≤ 32 := by
  refine Ty.ind (p := fun t => ∀ c, shapeF t c = true → ∀ x ∈ partsL t, x.name.size ≤ 32) (fun t ih => ?_) t
  intro c h x hx
  obtain ⟨ks, hk, hl, hall, hh, _⟩ := shape_pos h
  rw [partsL_eq] at hx
  rcases List.mem_cons.1 hx with rfl | hx
  · unfold headOk at hh
    by_cases h11 : x.op = 11
    · simp [h11] at hh; exact word_small hh.1
    · simp [h11] at hh; rw [hh.1]; decide
  · obtain ⟨k, hkm, hxk⟩ := List.mem_flatMap.1 hx
    obtain ⟨j, hj, rfl⟩ := List.getElem_of_mem hkm
    have hjd : j < ks.data.size := by rw [hl] at hj; exact hj
    exact ih _ hkm _ (hall j _ _ (List.getElem?_eq_getElem hj) (Array.getElem?_eq_getElem hjd)) x hxk
theorem typeB_len {t : Ty} {c : UInt8} (h : shapeF t c = true) : (typeB t).length ≤ 53 * psz t := by
  have h1 := typeB_sum t
  have h3 := shape_parts c h
  have h2 : ((partsL t).map hl1).sum ≤ 53 * ((partsL t).map fun _ => 1).sum + 0 * ((partsL t).map fun _ => 0).sum := sum_lin _ (fun x hx => by have := h3 x hx; unfold hl1; split <;> omega)
  have h4 : ((partsL t).map fun _ => 1).sum = psz t := by
    show _ = (partsL t).length
    induction partsL t with
    | nil => rfl
    | cons a l ih => rw [List.map_cons, List.sum_cons, ih, List.length_cons]; omega
  omega
def hl2 (x : Tm) : Nat := 42 + x.name.size + x.arg.size + (bif x.has then (typeB x.ann).length else 0)
theorem termB_sum (t : Tm) : (termB t).length ≤ ((nodesL t).map hl2).sum := by
  refine Tm.ind (p := fun t => (termB t).length ≤ ((nodesL t).map hl2).sum) (fun t ih => ?_) t
  rw [termB_eq, nodesL_eq, List.length_append, List.map_cons, List.sum_cons]
  have h1 : (headE t.op t.name t.arg t.n t.has t.ann t.kids.length).length ≤ hl2 t := by
    unfold headE hl2
    have e1 := textB_len t.name
    have e2 := textB_len t.arg
    have e3 := numY_len (u64 t.n)
    have e4 := numY_len t.kids.length
    have g1 : (o1 t.op t.name).length ≤ 11 + t.name.size := by unfold o1; cases (prt t.op).1 <;> simp <;> omega
    have g2 : (o2 t.op t.arg).length ≤ 10 + t.arg.size := by unfold o2; cases (prt t.op).2.1 <;> simp <;> omega
    have g3 : (o3 t.op t.n).length ≤ 10 := by unfold o3; cases (prt t.op).2.2.1 <;> simp <;> omega
    have g4 : (o4 t.op t.has).length ≤ 1 := by unfold o4; cases decide ((prt t.op).2.2.2 = 1) <;> simp
    have g5 : (o5 t.has t.ann).length ≤ (bif t.has then (typeB t.ann).length else 0) := by unfold o5; cases t.has <;> simp
    have g6 : (o6 t.op t.kids.length).length ≤ 10 := by unfold o6; cases decide (cnt t.op < 0) <;> simp <;> omega
    simp only [List.length_append]
    omega
  have h2 : ∀ l : List Tm, (∀ k ∈ l, (termB k).length ≤ ((nodesL k).map hl2).sum) → (l.flatMap termB).length ≤ ((l.flatMap nodesL).map hl2).sum := by
    intro l
    induction l with
    | nil => intro _; exact Nat.le_refl _
    | cons k l ihl =>
      intro h
      have e1 := ihl (fun y hy => h y (List.mem_cons_of_mem _ hy))
      have e2 := h k List.mem_cons_self
      rw [List.flatMap_cons, List.flatMap_cons, List.length_append, List.map_append, List.sum_append]; omega
  have := h2 t.kids ih
  omega
theorem termB_tmsz (t : Tm) : (termB t).length ≤ 42 * tmsz t := by
  have h := termB_sum t
  have h2 : ((nodesL t).map hl2).sum ≤ 42 * tmsz t + 0 * ((nodesL t).map fun _ => 0).sum := sum_lin _ (fun x _ => by have := typeB_tsz x.ann; unfold hl2; cases x.has <;> simp <;> omega)
  omega
theorem right_nodes {t : Tm} : ∀ b, rightT t b = true → ∀ x ∈ nodesL t, ∃ b', rightT x b' = true := by
  refine Tm.ind (p := fun t => ∀ b, rightT t b = true → ∀ x ∈ nodesL t, ∃ b', rightT x b' = true) (fun t ih => ?_) t
  intro b h x hx
  rw [nodesL_eq] at hx
  rcases List.mem_cons.1 hx with rfl | hx
  · exact ⟨b, h⟩
  · obtain ⟨k, hkm, hxk⟩ := List.mem_flatMap.1 hx
    obtain ⟨b', hb'⟩ := (right_node h).2.2.2.2.2.2.2.2.2.2 k hkm
    exact ih k hkm b' hb' x hxk
theorem termB_len {t : Tm} {b : Bool} (h : rightT t b = true) : (termB t).length ≤ 106 * nsz t + 53 * asz t := by
  have h1 := termB_sum t
  have h2 : ((nodesL t).map hl2).sum ≤ 106 * ((nodesL t).map fun _ => 1).sum + 53 * ((nodesL t).map fun x => psz x.ann).sum := sum_lin _ (fun x hx => by
    obtain ⟨b', hb'⟩ := right_nodes b h x hx
    obtain ⟨_, _, n2, _, a2, _, _, x1, _⟩ := right_node hb'
    unfold hl2
    cases hh : x.has with
    | true =>
      have hs : shapeF x.ann 116 = true := by have := (x1 hh).2; unfold rightB at this; simp only [Bool.and_eq_true] at this; exact this.1
      have := typeB_len hs
      simp only [cond_true]; omega
    | false => simp only [cond_false]; omega)
  have h4 : ((nodesL t).map fun _ => 1).sum = nsz t := by
    show _ = (nodesL t).length
    induction nodesL t with
    | nil => rfl
    | cons a l ih => rw [List.map_cons, List.sum_cons, ih, List.length_cons]; omega
  have h5 : ((nodesL t).map fun x => psz x.ann).sum = asz t := rfl
  omega
theorem getT_put {t : Tm} (h : rightT t false = true) (hn : nM t) (hl : (termB t).length ≤ 1000000) : okGT (termB t) = true ∧ getT (termB t) = t := by
  have e := termE_put t false h hn ((termB t).length + 1) [] (by rw [List.append_nil]; omega) (by omega)
  rw [List.append_nil] at e
  unfold okGT getT
  rw [e]
  exact ⟨by rw [h]; rfl, rfl⟩
theorem getY_put {t : Ty} (h : (rightB t || rowB t) = true) (hn : nT t) : okGY (typeB t) = true ∧ getY (typeB t) = t := by
  have hs : ∃ c, shapeF t c = true := by
    unfold rightB rowB at h
    simp only [Bool.or_eq_true, Bool.and_eq_true] at h
    rcases h with h | h
    · exact ⟨_, h.1⟩
    · exact ⟨_, h.1⟩
  obtain ⟨c, hc⟩ := hs
  have e := kindE_put t c hc hn ((typeB t).length + 1) [] (by rw [List.append_nil]; omega)
  rw [List.append_nil] at e
  unfold okGY getY
  rw [e]
  exact ⟨by rw [h]; rfl, rfl⟩
end Rw
namespace Go.Proofs.Ytohfnpmehgpphaa
open Go Rw Go.RowKit
set_option maxRecDepth 100000
theorem codecPuts_spec (t : Tm) (u : Ty) (M : Nat → Prop) (w : World) (v x : Value) (ht : Rep.R M w v t) (hu : Rep.R M w x u) (hzt : tmsz t ≤ 2000000) (hzu : tsz u ≤ 2000000) (hlow : Low M w) :
  Calls Try.prog 9 #[v, x] w (Ret fun r w' => r = .bool true ∧ Ext w w') := by
 have hE : Below w.heap.size w w := Below.refl _ _
 have hB : w.heap.size ≤ w.heap.size := Nat.le_refl _
 have hz := annS_tmsz hzt
 have hns := Nat.le_trans (nsz_tmsz t) hzt
 have has := Nat.le_trans (asz_tmsz t) hzt
 have hpu := Nat.le_trans (psz_tsz u) hzu
 have hnM := rep_nM t _ ht
 have hnT := rep_nT u _ hu
 have hbt := termB_tmsz t
 have hbu := typeB_tsz u
 obtain ⟨akv, kv, rfl, op, nm, ag, n64, ha, hk⟩ := tm_open ht
 obtain ⟨kvu, rfl, opu, nmu, n64u, hku⟩ := ty_open hu
 refine c_enter (n := 106) Try.func9 rfl rfl rfl ?_
 refine q0 ?_
 refine lC (o_box rfl rfl rfl ?_)
 intro b2 w1 hb_b2 ew1 h2
 replace h2 : Box _ b2 84 [.int .u8 t.op, .string t.name, .string t.arg, .int .i64 t.n, .bool t.has, .int .u8 t.ann.op, .string t.ann.name, .int .i64 t.ann.n, akv, kv] := h2
 replace h2 := h2.at (nM_of hlow hb_b2)
 replace hE := ew1.bl hE hB
 replace ht := Rep.ext ht ew1
 replace ha := Rep.ext ha ew1
 replace hk := hk.ext ew1
 replace hu := Rep.ext hu ew1
 replace hku := hku.ext ew1
 replace hlow := hlow.ext ew1
 replace hB := ew1.z hB
 refine lC (o_box rfl rfl rfl ?_)
 intro b3 w2 hb_b3 ew2 h3
 replace h3 : Box _ b3 40 [.int .u8 u.op, .string u.name, .int .i64 u.n, kvu] := h3
 replace h3 := h3.at (nM_of hlow hb_b3)
 replace hE := ew2.bl hE hB
 replace ht := Rep.ext ht ew2
 replace ha := Rep.ext ha ew2
 replace hk := hk.ext ew2
 replace hu := Rep.ext hu ew2
 replace hku := hku.ext ew2
 replace h2 := h2.ext ew2
 replace hlow := hlow.ext ew2
 replace hB := ew2.z hB
 refine l_p 1 tK rfl (q1 (c_seq (q0 ?_)))
 refine lC (o_call fo27 rfl rfl rfl (alive27_spec _ _ hlow) ?_)
 rintro _ w3 ⟨rfl, ew3⟩
 replace hE := ew3.bl hE hB
 replace ht := Rep.ext ht ew3
 replace ha := Rep.ext ha ew3
 replace hk := hk.ext ew3
 replace hu := Rep.ext hu ew3
 replace hku := hku.ext ew3
 replace h2 := h2.ext ew3
 replace h3 := h3.ext ew3
 replace hlow := hlow.ext ew3
 replace hB := ew3.z hB
 refine l_p 1 tK rfl (q1 ?_)
 refine c_ifB _ rfl (fun c1 => ?_) (fun c1 => ?_)
 ·exact absurd c1 (by simp)
 refine c_skip (x_seq (c_seq (q0 ?_)))
 refine lC (o_lds tK (fun j v hv => h2.cell j v hv) rfl rfl rfl rfl rfl rfl ?_)
 refine lC (o_call fo39 rfl rfl rfl (manyM_spec t M _ _ ht hlow hz hns has) ?_)
 rintro _ w4 ⟨rfl, ew4⟩
 replace hE := ew4.bl hE hB
 replace ht := Rep.ext ht ew4
 replace ha := Rep.ext ha ew4
 replace hk := hk.ext ew4
 replace hu := Rep.ext hu ew4
 replace hku := hku.ext ew4
 replace h2 := h2.ext ew4
 replace h3 := h3.ext ew4
 replace hlow := hlow.ext ew4
 replace hB := ew4.z hB
 refine l_p 1 tK rfl ?_
 refine l_split 17 _ rfl (fun c2 => ?_) (fun c2 => ?_)
 ·refine l_p 5 tK rfl (q1 (c_ifT rfl (q0 (l_p 1 tK rfl (q1 (c_ret (x_seqR (x_ret1 rfl rfl ?_))))))))
  exact ⟨rfl, hE⟩
 have hm0 := c2
 refine lC (o_lds tK (fun j v hv => h3.cell j v hv) rfl rfl rfl rfl rfl rfl ?_)
 refine lC (o_call fo40 rfl rfl rfl (parts_spec u M _ _ hu hlow hpu) ?_)
 rintro vhp w5 ⟨hp, ew5⟩
 replace hE := ew5.bl hE hB
 replace ht := Rep.ext ht ew5
 replace ha := Rep.ext ha ew5
 replace hk := hk.ext ew5
 replace hu := Rep.ext hu ew5
 replace hku := hku.ext ew5
 replace h2 := h2.ext ew5
 replace h3 := h3.ext ew5
 replace hlow := hlow.ext ew5
 replace hB := ew5.z hB
 refine lC (o_len tK hp rfl rfl rfl rfl rfl ?_)
 refine l_p 2 tK rfl (q1 ?_)
 refine c_ifP _ rfl (fun c3 => ?_) (fun c3 => ?_)
 ·refine q0 (l_p 1 tK rfl (q1 (c_ret (x_seqR (x_ret1 rfl rfl ?_)))))
  exact ⟨rfl, hE⟩
 have hpl : (partsL u).length = psz u := rfl
 have hm1 : nsz t ≤ 80 ∧ asz t ≤ 200 := by simp at hm0; omega
 have hm2 : psz u ≤ 400 := by omega
 refine c_skip (x_seq (q0 ?_))
 refine lC (o_lds tK (fun j v hv => h2.cell j v hv) rfl rfl rfl rfl rfl rfl ?_)
 have hpt := putTerm_spec t _ _ _ ht hlow hz (by omega)
 cases hr : rightT t false with
 | false =>
  rw [hr] at hpt
  refine lC (o_call fo41 rfl rfl rfl (hpt) ?_)
  rintro _ w6 ⟨⟨yhpt, rfl, hptx⟩, ew6⟩
  replace hptx : Sl M w6 yhpt (([] : List UInt8)) := hptx
  replace hE := ew6.bl hE hB
  replace ht := Rep.ext ht ew6
  replace ha := Rep.ext ha ew6
  replace hk := hk.ext ew6
  replace hu := Rep.ext hu ew6
  replace hku := hku.ext ew6
  replace h2 := h2.ext ew6
  replace h3 := h3.ext ew6
  replace hp := hp.ext ew6
  replace hlow := hlow.ext ew6
  replace hB := ew6.z hB
  refine l_p 5 tK rfl (q1 (q0 ?_))
  refine lC (o_lds tK (fun j v hv => h3.cell j v hv) rfl rfl rfl rfl rfl rfl ?_)
  have hpk := putType_spec u _ _ _ hu hlow (by omega)
  cases hq : (rightB u || rowB u) with
  | false =>
   rw [hq] at hpk
   refine lC (o_call fo42 rfl rfl rfl (hpk) ?_)
   rintro _ w7 ⟨⟨yhpk, rfl, hpkx⟩, ew7⟩
   replace hpkx : Sl M w7 yhpk (([] : List UInt8)) := hpkx
   replace hE := ew7.bl hE hB
   replace ht := Rep.ext ht ew7
   replace ha := Rep.ext ha ew7
   replace hk := hk.ext ew7
   replace hu := Rep.ext hu ew7
   replace hku := hku.ext ew7
   replace h2 := h2.ext ew7
   replace h3 := h3.ext ew7
   replace hp := hp.ext ew7
   replace hptx := hptx.ext ew7
   replace hlow := hlow.ext ew7
   replace hB := ew7.z hB
   refine l_p 5 tK rfl (q1 (c_seq (q0 ?_)))
   refine lC (o_lds tK (fun j v hv => h2.cell j v hv) rfl rfl rfl rfl rfl rfl ?_)
   have hrr := refTR_spec t false M _ _ ht hlow hz
   rw [hr] at hrr
   refine lC (o_call fo43 rfl rfl rfl (hrr) ?_)
   rintro _ w8 ⟨rfl, ew8⟩
   replace hE := ew8.bl hE hB
   replace ht := Rep.ext ht ew8
   replace ha := Rep.ext ha ew8
   replace hk := hk.ext ew8
   replace hu := Rep.ext hu ew8
   replace hku := hku.ext ew8
   replace h2 := h2.ext ew8
   replace h3 := h3.ext ew8
   replace hp := hp.ext ew8
   replace hptx := hptx.ext ew8
   replace hpkx := hpkx.ext ew8
   replace hlow := hlow.ext ew8
   replace hB := ew8.z hB
   refine l_p 1 tK rfl (q1 (c_ifT rfl (q0 (l_p 1 tK rfl ?_))))
   refine lC (o_conv (y := 15) tK rfl rfl rfl rfl rfl rfl rfl rfl ?_)
   refine l_p 3 tK rfl ?_
   refine lC (o_len tK hptx rfl rfl rfl rfl rfl ?_)
   refine l_p 2 tK rfl (q1 ?_)
   refine c_ifN _ rfl (fun c4 => ?_) (fun c4 => ?_)
   ·exact absurd rfl c4
   refine c_skip (x_seq (c_seq (q0 ?_)))
   refine lC (o_lds tK (fun j v hv => h3.cell j v hv) rfl rfl rfl rfl rfl rfl ?_)
   refine lC (o_call fo45 rfl rfl rfl (refRight_spec u _ _ _ hu hlow hpu) ?_)
   rintro _ w9 ⟨rfl, ew9⟩
   replace hE := ew9.bl hE hB
   replace ht := Rep.ext ht ew9
   replace ha := Rep.ext ha ew9
   replace hk := hk.ext ew9
   replace hu := Rep.ext hu ew9
   replace hku := hku.ext ew9
   replace h2 := h2.ext ew9
   replace h3 := h3.ext ew9
   replace hp := hp.ext ew9
   replace hptx := hptx.ext ew9
   replace hpkx := hpkx.ext ew9
   replace hlow := hlow.ext ew9
   replace hB := ew9.z hB
   refine l_p 2 tK rfl ?_
   refine l_splitB 71 _ rfl (fun c5 => ?_) (fun c5 => ?_)
   ·refine lC (o_lds tK (fun j v hv => h3.cell j v hv) rfl rfl rfl rfl rfl rfl ?_)
    refine lC (o_call fo20 rfl rfl rfl (refRow_spec u _ _ _ hu hlow hpu) ?_)
    rintro _ w10 ⟨rfl, ew10⟩
    replace hE := ew10.bl hE hB
    replace ht := Rep.ext ht ew10
    replace ha := Rep.ext ha ew10
    replace hk := hk.ext ew10
    replace hu := Rep.ext hu ew10
    replace hku := hku.ext ew10
    replace h2 := h2.ext ew10
    replace h3 := h3.ext ew10
    replace hp := hp.ext ew10
    replace hptx := hptx.ext ew10
    replace hpkx := hpkx.ext ew10
    replace hlow := hlow.ext ew10
    replace hB := ew10.z hB
    refine l_p 2 tK rfl (q1 ?_)
    refine c_ifB _ rfl (fun c6 => ?_) (fun c6 => ?_)
    ·refine q0 (l_p 1 tK rfl ?_)
     refine lC (o_conv (y := 15) tK rfl rfl rfl rfl rfl rfl rfl rfl ?_)
     refine l_p 3 tK rfl ?_
     refine lC (o_len tK hpkx rfl rfl rfl rfl rfl ?_)
     refine l_p 3 tK rfl (q1 (c_ret (x_seqR (x_ret1 rfl rfl ?_))))
     exact ⟨rfl, hE⟩
    exfalso; simp_all
   exfalso; simp_all
  | true =>
   rw [hq] at hpk
   refine lC (o_call fo42 rfl rfl rfl (hpk) ?_)
   rintro _ w11 ⟨⟨yhpk, rfl, hpkx⟩, ew11⟩
   replace hpkx : Sl M w11 yhpk (typeB u) := hpkx
   replace hE := ew11.bl hE hB
   replace ht := Rep.ext ht ew11
   replace ha := Rep.ext ha ew11
   replace hk := hk.ext ew11
   replace hu := Rep.ext hu ew11
   replace hku := hku.ext ew11
   replace h2 := h2.ext ew11
   replace h3 := h3.ext ew11
   replace hp := hp.ext ew11
   replace hptx := hptx.ext ew11
   replace hlow := hlow.ext ew11
   replace hB := ew11.z hB
   have hlb : (typeB u).length ≤ 65536 := by
    have hs : ∃ c, shapeF u c = true := by
     have hk2 := hq
     unfold rightB rowB at hk2
     simp only [Bool.or_eq_true, Bool.and_eq_true] at hk2
     rcases hk2 with h | h
     ·exact ⟨_, h.1⟩
     ·exact ⟨_, h.1⟩
    obtain ⟨c, hc⟩ := hs
    have := typeB_len hc
    omega
   refine l_p 5 tK rfl (q1 (c_seq (q0 ?_)))
   refine lC (o_lds tK (fun j v hv => h2.cell j v hv) rfl rfl rfl rfl rfl rfl ?_)
   have hrr := refTR_spec t false M _ _ ht hlow hz
   rw [hr] at hrr
   refine lC (o_call fo43 rfl rfl rfl (hrr) ?_)
   rintro _ w12 ⟨rfl, ew12⟩
   replace hE := ew12.bl hE hB
   replace ht := Rep.ext ht ew12
   replace ha := Rep.ext ha ew12
   replace hk := hk.ext ew12
   replace hu := Rep.ext hu ew12
   replace hku := hku.ext ew12
   replace h2 := h2.ext ew12
   replace h3 := h3.ext ew12
   replace hp := hp.ext ew12
   replace hptx := hptx.ext ew12
   replace hpkx := hpkx.ext ew12
   replace hlow := hlow.ext ew12
   replace hB := ew12.z hB
   refine l_p 1 tK rfl (q1 (c_ifT rfl (q0 (l_p 1 tK rfl ?_))))
   refine lC (o_conv (y := 15) tK rfl rfl rfl rfl rfl rfl rfl rfl ?_)
   refine l_p 3 tK rfl ?_
   refine lC (o_len tK hptx rfl rfl rfl rfl rfl ?_)
   refine l_p 2 tK rfl (q1 ?_)
   refine c_ifN _ rfl (fun c7 => ?_) (fun c7 => ?_)
   ·exact absurd rfl c7
   refine c_skip (x_seq (c_seq (q0 ?_)))
   refine lC (o_lds tK (fun j v hv => h3.cell j v hv) rfl rfl rfl rfl rfl rfl ?_)
   refine lC (o_call fo45 rfl rfl rfl (refRight_spec u _ _ _ hu hlow hpu) ?_)
   rintro _ w13 ⟨rfl, ew13⟩
   replace hE := ew13.bl hE hB
   replace ht := Rep.ext ht ew13
   replace ha := Rep.ext ha ew13
   replace hk := hk.ext ew13
   replace hu := Rep.ext hu ew13
   replace hku := hku.ext ew13
   replace h2 := h2.ext ew13
   replace h3 := h3.ext ew13
   replace hp := hp.ext ew13
   replace hptx := hptx.ext ew13
   replace hpkx := hpkx.ext ew13
   replace hlow := hlow.ext ew13
   replace hB := ew13.z hB
   refine l_p 2 tK rfl ?_
   refine l_splitB 71 _ rfl (fun c8 => ?_) (fun c8 => ?_)
   ·refine lC (o_lds tK (fun j v hv => h3.cell j v hv) rfl rfl rfl rfl rfl rfl ?_)
    refine lC (o_call fo20 rfl rfl rfl (refRow_spec u _ _ _ hu hlow hpu) ?_)
    rintro _ w14 ⟨rfl, ew14⟩
    replace hE := ew14.bl hE hB
    replace ht := Rep.ext ht ew14
    replace ha := Rep.ext ha ew14
    replace hk := hk.ext ew14
    replace hu := Rep.ext hu ew14
    replace hku := hku.ext ew14
    replace h2 := h2.ext ew14
    replace h3 := h3.ext ew14
    replace hp := hp.ext ew14
    replace hptx := hptx.ext ew14
    replace hpkx := hpkx.ext ew14
    replace hlow := hlow.ext ew14
    replace hB := ew14.z hB
    refine l_p 2 tK rfl (q1 ?_)
    refine c_ifB _ rfl (fun c9 => ?_) (fun c9 => ?_)
    ·exfalso; simp_all
    refine c_skip (x_seq (q0 (l_p 1 tK rfl ?_)))
    obtain ⟨ok2, gk2⟩ := getY_put hq hnT
    have hgk := getType_spec (typeB u) hlb _ _ _ hpkx hlow
    rw [ok2, cond_true, cond_true, gk2] at hgk
    refine lC (o_call fo34 rfl rfl rfl (hgk) ?_)
    rintro _ w15 ⟨⟨xhgu, rfl, hgu⟩, ew15⟩
    replace hE := ew15.bl hE hB
    replace ht := Rep.ext ht ew15
    replace ha := Rep.ext ha ew15
    replace hk := hk.ext ew15
    replace hu := Rep.ext hu ew15
    replace hku := hku.ext ew15
    replace h2 := h2.ext ew15
    replace h3 := h3.ext ew15
    replace hp := hp.ext ew15
    replace hptx := hptx.ext ew15
    replace hpkx := hpkx.ext ew15
    replace hlow := hlow.ext ew15
    replace hB := ew15.z hB
    obtain ⟨kvhgu, rfl, ophgu, nmhgu, n64hgu, hkhgu⟩ := ty_open hgu
    refine l_p 3 tK rfl ?_
    refine lC (o_new tK rfl rfl rfl ?_)
    intro b11 w16 qb11 ew16 hb11
    have nb11 := nM_of hlow qb11
    refine lC (o_st tK hb11 rfl rfl rfl rfl (Rep.one hgu) rfl rfl ?_)
    intro w17 h11 uw17 bew17
    have ew17 : Ext w15 w17 := ew16.trans (bew17 _ (Nat.le_of_eq qb11.symm))
    replace hE := ew17.bl hE hB
    replace ht := Rep.ext ht ew17
    replace ha := Rep.ext ha ew17
    replace hk := hk.ext ew17
    replace hu := Rep.ext hu ew17
    replace hku := hku.ext ew17
    replace h2 := h2.ext ew17
    replace h3 := h3.ext ew17
    replace hp := hp.ext ew17
    replace hptx := hptx.ext ew17
    replace hpkx := hpkx.ext ew17
    replace hgu := Rep.ext hgu ew17
    replace hkhgu := hkhgu.ext ew17
    replace hlow := hlow.ext ew17
    replace hB := ew17.z hB
    replace h11 : Box w17 b11 40 [.int .u8 u.op, .string u.name, .int .i64 u.n, kvhgu] := h11
    replace h11 := h11.at nb11
    refine l_p 1 tK rfl (q1 (q0 (l_p 1 tK rfl ?_)))
    refine lC (o_conv (y := 0) tK rfl rfl rfl rfl rfl rfl rfl rfl ?_)
    refine l_p 1 tK rfl ?_
    refine lC (o_conv (y := 0) tK rfl rfl rfl rfl rfl rfl rfl rfl ?_)
    refine lC (o_ar rfl rfl rfl (z := 0) rfl rfl rfl ?_)
    refine l_p 3 tK rfl ?_
    refine lC (o_lds tK (fun j v hv => h3.cell j v hv) rfl rfl rfl rfl rfl rfl ?_)
    refine lC (o_call fo46 rfl rfl rfl (typeR_spec u _ _ _ hu hlow (by omega)) ?_)
    rintro vhru w18 ⟨hru, ew18⟩
    replace hE := ew18.bl hE hB
    replace ht := Rep.ext ht ew18
    replace ha := Rep.ext ha ew18
    replace hk := hk.ext ew18
    replace hu := Rep.ext hu ew18
    replace hku := hku.ext ew18
    replace h2 := h2.ext ew18
    replace h3 := h3.ext ew18
    replace hp := hp.ext ew18
    replace hptx := hptx.ext ew18
    replace hpkx := hpkx.ext ew18
    replace hgu := Rep.ext hgu ew18
    replace hkhgu := hkhgu.ext ew18
    replace h11 := h11.ext ew18
    replace hlow := hlow.ext ew18
    replace hB := ew18.z hB
    have hsm10 := sameB_spec (typeB u) (typeB u) M _ _ _ hpkx hru
    rw [decide_eq_true rfl] at hsm10
    refine lC (o_call fo29 rfl rfl rfl (hsm10) ?_)
    rintro _ w19 ⟨rfl, ew19⟩
    replace hE := ew19.bl hE hB
    replace ht := Rep.ext ht ew19
    replace ha := Rep.ext ha ew19
    replace hk := hk.ext ew19
    replace hu := Rep.ext hu ew19
    replace hku := hku.ext ew19
    replace h2 := h2.ext ew19
    replace h3 := h3.ext ew19
    replace hp := hp.ext ew19
    replace hptx := hptx.ext ew19
    replace hpkx := hpkx.ext ew19
    replace hgu := Rep.ext hgu ew19
    replace hkhgu := hkhgu.ext ew19
    replace h11 := h11.ext ew19
    replace hru := hru.ext ew19
    replace hlow := hlow.ext ew19
    replace hB := ew19.z hB
    refine l_p 2 tK rfl ?_
    refine lC (o_lds tK (fun j v hv => h11.cell j v hv) rfl rfl rfl rfl rfl rfl ?_)
    refine lC (o_lds tK (fun j v hv => h3.cell j v hv) rfl rfl rfl rfl rfl rfl ?_)
    have hak := alike_spec u u M _ _ _ hgu hu hlow
    rw [cl_true rfl] at hak
    refine lC (o_call fo38 rfl rfl rfl (hak) ?_)
    rintro _ w20 ⟨rfl, ew20⟩
    replace hE := ew20.bl hE hB
    replace ht := Rep.ext ht ew20
    replace ha := Rep.ext ha ew20
    replace hk := hk.ext ew20
    replace hu := Rep.ext hu ew20
    replace hku := hku.ext ew20
    replace h2 := h2.ext ew20
    replace h3 := h3.ext ew20
    replace hp := hp.ext ew20
    replace hptx := hptx.ext ew20
    replace hpkx := hpkx.ext ew20
    replace hgu := Rep.ext hgu ew20
    replace hkhgu := hkhgu.ext ew20
    replace h11 := h11.ext ew20
    replace hru := hru.ext ew20
    replace hlow := hlow.ext ew20
    replace hB := ew20.z hB
    refine l_p 2 tK rfl (q1 (c_ret (x_ret1 rfl rfl ?_)))
    exact ⟨rfl, hE⟩
   refine l_p 4 tK rfl (q1 (c_ifF rfl (c_skip (x_seq (q0 (l_p 1 tK rfl ?_))))))
   obtain ⟨ok2, gk2⟩ := getY_put hq hnT
   have hgk := getType_spec (typeB u) hlb _ _ _ hpkx hlow
   rw [ok2, cond_true, cond_true, gk2] at hgk
   refine lC (o_call fo34 rfl rfl rfl (hgk) ?_)
   rintro _ w21 ⟨⟨xhgu, rfl, hgu⟩, ew21⟩
   replace hE := ew21.bl hE hB
   replace ht := Rep.ext ht ew21
   replace ha := Rep.ext ha ew21
   replace hk := hk.ext ew21
   replace hu := Rep.ext hu ew21
   replace hku := hku.ext ew21
   replace h2 := h2.ext ew21
   replace h3 := h3.ext ew21
   replace hp := hp.ext ew21
   replace hptx := hptx.ext ew21
   replace hpkx := hpkx.ext ew21
   replace hlow := hlow.ext ew21
   replace hB := ew21.z hB
   obtain ⟨kvhgu, rfl, ophgu, nmhgu, n64hgu, hkhgu⟩ := ty_open hgu
   refine l_p 3 tK rfl ?_
   refine lC (o_new tK rfl rfl rfl ?_)
   intro b11 w22 qb11 ew22 hb11
   have nb11 := nM_of hlow qb11
   refine lC (o_st tK hb11 rfl rfl rfl rfl (Rep.one hgu) rfl rfl ?_)
   intro w23 h11 uw23 bew23
   have ew23 : Ext w21 w23 := ew22.trans (bew23 _ (Nat.le_of_eq qb11.symm))
   replace hE := ew23.bl hE hB
   replace ht := Rep.ext ht ew23
   replace ha := Rep.ext ha ew23
   replace hk := hk.ext ew23
   replace hu := Rep.ext hu ew23
   replace hku := hku.ext ew23
   replace h2 := h2.ext ew23
   replace h3 := h3.ext ew23
   replace hp := hp.ext ew23
   replace hptx := hptx.ext ew23
   replace hpkx := hpkx.ext ew23
   replace hgu := Rep.ext hgu ew23
   replace hkhgu := hkhgu.ext ew23
   replace hlow := hlow.ext ew23
   replace hB := ew23.z hB
   replace h11 : Box w23 b11 40 [.int .u8 u.op, .string u.name, .int .i64 u.n, kvhgu] := h11
   replace h11 := h11.at nb11
   refine l_p 1 tK rfl (q1 (q0 (l_p 1 tK rfl ?_)))
   refine lC (o_conv (y := 0) tK rfl rfl rfl rfl rfl rfl rfl rfl ?_)
   refine l_p 1 tK rfl ?_
   refine lC (o_conv (y := 0) tK rfl rfl rfl rfl rfl rfl rfl rfl ?_)
   refine lC (o_ar rfl rfl rfl (z := 0) rfl rfl rfl ?_)
   refine l_p 3 tK rfl ?_
   refine lC (o_lds tK (fun j v hv => h3.cell j v hv) rfl rfl rfl rfl rfl rfl ?_)
   refine lC (o_call fo46 rfl rfl rfl (typeR_spec u _ _ _ hu hlow (by omega)) ?_)
   rintro vhru w24 ⟨hru, ew24⟩
   replace hE := ew24.bl hE hB
   replace ht := Rep.ext ht ew24
   replace ha := Rep.ext ha ew24
   replace hk := hk.ext ew24
   replace hu := Rep.ext hu ew24
   replace hku := hku.ext ew24
   replace h2 := h2.ext ew24
   replace h3 := h3.ext ew24
   replace hp := hp.ext ew24
   replace hptx := hptx.ext ew24
   replace hpkx := hpkx.ext ew24
   replace hgu := Rep.ext hgu ew24
   replace hkhgu := hkhgu.ext ew24
   replace h11 := h11.ext ew24
   replace hlow := hlow.ext ew24
   replace hB := ew24.z hB
   have hsm11 := sameB_spec (typeB u) (typeB u) M _ _ _ hpkx hru
   rw [decide_eq_true rfl] at hsm11
   refine lC (o_call fo29 rfl rfl rfl (hsm11) ?_)
   rintro _ w25 ⟨rfl, ew25⟩
   replace hE := ew25.bl hE hB
   replace ht := Rep.ext ht ew25
   replace ha := Rep.ext ha ew25
   replace hk := hk.ext ew25
   replace hu := Rep.ext hu ew25
   replace hku := hku.ext ew25
   replace h2 := h2.ext ew25
   replace h3 := h3.ext ew25
   replace hp := hp.ext ew25
   replace hptx := hptx.ext ew25
   replace hpkx := hpkx.ext ew25
   replace hgu := Rep.ext hgu ew25
   replace hkhgu := hkhgu.ext ew25
   replace h11 := h11.ext ew25
   replace hru := hru.ext ew25
   replace hlow := hlow.ext ew25
   replace hB := ew25.z hB
   refine l_p 2 tK rfl ?_
   refine lC (o_lds tK (fun j v hv => h11.cell j v hv) rfl rfl rfl rfl rfl rfl ?_)
   refine lC (o_lds tK (fun j v hv => h3.cell j v hv) rfl rfl rfl rfl rfl rfl ?_)
   have hak := alike_spec u u M _ _ _ hgu hu hlow
   rw [cl_true rfl] at hak
   refine lC (o_call fo38 rfl rfl rfl (hak) ?_)
   rintro _ w26 ⟨rfl, ew26⟩
   replace hE := ew26.bl hE hB
   replace ht := Rep.ext ht ew26
   replace ha := Rep.ext ha ew26
   replace hk := hk.ext ew26
   replace hu := Rep.ext hu ew26
   replace hku := hku.ext ew26
   replace h2 := h2.ext ew26
   replace h3 := h3.ext ew26
   replace hp := hp.ext ew26
   replace hptx := hptx.ext ew26
   replace hpkx := hpkx.ext ew26
   replace hgu := Rep.ext hgu ew26
   replace hkhgu := hkhgu.ext ew26
   replace h11 := h11.ext ew26
   replace hru := hru.ext ew26
   replace hlow := hlow.ext ew26
   replace hB := ew26.z hB
   refine l_p 2 tK rfl (q1 (c_ret (x_ret1 rfl rfl ?_)))
   exact ⟨rfl, hE⟩
 | true =>
  rw [hr] at hpt
  refine lC (o_call fo41 rfl rfl rfl (hpt) ?_)
  rintro _ w27 ⟨⟨yhpt, rfl, hptx⟩, ew27⟩
  replace hptx : Sl M w27 yhpt (termB t) := hptx
  replace hE := ew27.bl hE hB
  replace ht := Rep.ext ht ew27
  replace ha := Rep.ext ha ew27
  replace hk := hk.ext ew27
  replace hu := Rep.ext hu ew27
  replace hku := hku.ext ew27
  replace h2 := h2.ext ew27
  replace h3 := h3.ext ew27
  replace hp := hp.ext ew27
  replace hlow := hlow.ext ew27
  replace hB := ew27.z hB
  have hla : (termB t).length ≤ 65536 := by have := termB_len hr; omega
  refine l_p 5 tK rfl (q1 (q0 ?_))
  refine lC (o_lds tK (fun j v hv => h3.cell j v hv) rfl rfl rfl rfl rfl rfl ?_)
  have hpk := putType_spec u _ _ _ hu hlow (by omega)
  cases hq : (rightB u || rowB u) with
  | false =>
   rw [hq] at hpk
   refine lC (o_call fo42 rfl rfl rfl (hpk) ?_)
   rintro _ w28 ⟨⟨yhpk, rfl, hpkx⟩, ew28⟩
   replace hpkx : Sl M w28 yhpk (([] : List UInt8)) := hpkx
   replace hE := ew28.bl hE hB
   replace ht := Rep.ext ht ew28
   replace ha := Rep.ext ha ew28
   replace hk := hk.ext ew28
   replace hu := Rep.ext hu ew28
   replace hku := hku.ext ew28
   replace h2 := h2.ext ew28
   replace h3 := h3.ext ew28
   replace hp := hp.ext ew28
   replace hptx := hptx.ext ew28
   replace hlow := hlow.ext ew28
   replace hB := ew28.z hB
   refine l_p 5 tK rfl (q1 (c_seq (q0 ?_)))
   refine lC (o_lds tK (fun j v hv => h2.cell j v hv) rfl rfl rfl rfl rfl rfl ?_)
   have hrr := refTR_spec t false M _ _ ht hlow hz
   rw [hr] at hrr
   refine lC (o_call fo43 rfl rfl rfl (hrr) ?_)
   rintro _ w29 ⟨rfl, ew29⟩
   replace hE := ew29.bl hE hB
   replace ht := Rep.ext ht ew29
   replace ha := Rep.ext ha ew29
   replace hk := hk.ext ew29
   replace hu := Rep.ext hu ew29
   replace hku := hku.ext ew29
   replace h2 := h2.ext ew29
   replace h3 := h3.ext ew29
   replace hp := hp.ext ew29
   replace hptx := hptx.ext ew29
   replace hpkx := hpkx.ext ew29
   replace hlow := hlow.ext ew29
   replace hB := ew29.z hB
   refine l_p 1 tK rfl (q1 (c_ifF rfl (q0 (l_p 1 tK rfl ?_))))
   obtain ⟨ok1, gt1⟩ := getT_put hr hnM (by omega)
   have hgt := getTerm_spec (termB t) hla _ _ _ hptx hlow
   rw [ok1, cond_true, cond_true, gt1] at hgt
   refine lC (o_call fo33 rfl rfl rfl (hgt) ?_)
   rintro _ w30 ⟨⟨xhgm, rfl, hgm⟩, ew30⟩
   replace hE := ew30.bl hE hB
   replace ht := Rep.ext ht ew30
   replace ha := Rep.ext ha ew30
   replace hk := hk.ext ew30
   replace hu := Rep.ext hu ew30
   replace hku := hku.ext ew30
   replace h2 := h2.ext ew30
   replace h3 := h3.ext ew30
   replace hp := hp.ext ew30
   replace hptx := hptx.ext ew30
   replace hpkx := hpkx.ext ew30
   replace hlow := hlow.ext ew30
   replace hB := ew30.z hB
   obtain ⟨akvhgm, kvhgm, rfl, ophgm, nmhgm, aghgm, n64hgm, hahgm, hkhgm⟩ := tm_open hgm
   refine l_p 3 tK rfl ?_
   refine lC (o_new tK rfl rfl rfl ?_)
   intro b9 w31 qb9 ew31 hb9
   have nb9 := nM_of hlow qb9
   refine lC (o_st tK hb9 rfl rfl rfl rfl (Rep.one hgm) rfl rfl ?_)
   intro w32 h9 uw32 bew32
   have ew32 : Ext w30 w32 := ew31.trans (bew32 _ (Nat.le_of_eq qb9.symm))
   replace hE := ew32.bl hE hB
   replace ht := Rep.ext ht ew32
   replace ha := Rep.ext ha ew32
   replace hk := hk.ext ew32
   replace hu := Rep.ext hu ew32
   replace hku := hku.ext ew32
   replace h2 := h2.ext ew32
   replace h3 := h3.ext ew32
   replace hp := hp.ext ew32
   replace hptx := hptx.ext ew32
   replace hpkx := hpkx.ext ew32
   replace hgm := Rep.ext hgm ew32
   replace hahgm := Rep.ext hahgm ew32
   replace hkhgm := hkhgm.ext ew32
   replace hlow := hlow.ext ew32
   replace hB := ew32.z hB
   replace h9 : Box w32 b9 84 [.int .u8 t.op, .string t.name, .string t.arg, .int .i64 t.n, .bool t.has, .int .u8 t.ann.op, .string t.ann.name, .int .i64 t.ann.n, akvhgm, kvhgm] := h9
   replace h9 := h9.at nb9
   refine l_p 1 tK rfl (q1 (q0 (l_p 1 tK rfl ?_)))
   refine lC (o_conv (y := 0) tK rfl rfl rfl rfl rfl rfl rfl rfl ?_)
   refine l_p 1 tK rfl ?_
   refine lC (o_conv (y := 0) tK rfl rfl rfl rfl rfl rfl rfl rfl ?_)
   refine lC (o_ar rfl rfl rfl (z := 0) rfl rfl rfl ?_)
   refine l_p 3 tK rfl ?_
   refine lC (o_lds tK (fun j v hv => h2.cell j v hv) rfl rfl rfl rfl rfl rfl ?_)
   refine lC (o_call fo44 rfl rfl rfl (termR_spec t _ _ _ ht hlow (okM_right t false hr) (by omega)) ?_)
   rintro vhrt w33 ⟨hrt, ew33⟩
   replace hE := ew33.bl hE hB
   replace ht := Rep.ext ht ew33
   replace ha := Rep.ext ha ew33
   replace hk := hk.ext ew33
   replace hu := Rep.ext hu ew33
   replace hku := hku.ext ew33
   replace h2 := h2.ext ew33
   replace h3 := h3.ext ew33
   replace hp := hp.ext ew33
   replace hptx := hptx.ext ew33
   replace hpkx := hpkx.ext ew33
   replace hgm := Rep.ext hgm ew33
   replace hahgm := Rep.ext hahgm ew33
   replace hkhgm := hkhgm.ext ew33
   replace h9 := h9.ext ew33
   replace hlow := hlow.ext ew33
   replace hB := ew33.z hB
   have hsm12 := sameB_spec (termB t) (termB t) M _ _ _ hptx hrt
   rw [decide_eq_true rfl] at hsm12
   refine lC (o_call fo29 rfl rfl rfl (hsm12) ?_)
   rintro _ w34 ⟨rfl, ew34⟩
   replace hE := ew34.bl hE hB
   replace ht := Rep.ext ht ew34
   replace ha := Rep.ext ha ew34
   replace hk := hk.ext ew34
   replace hu := Rep.ext hu ew34
   replace hku := hku.ext ew34
   replace h2 := h2.ext ew34
   replace h3 := h3.ext ew34
   replace hp := hp.ext ew34
   replace hptx := hptx.ext ew34
   replace hpkx := hpkx.ext ew34
   replace hgm := Rep.ext hgm ew34
   replace hahgm := Rep.ext hahgm ew34
   replace hkhgm := hkhgm.ext ew34
   replace h9 := h9.ext ew34
   replace hrt := hrt.ext ew34
   replace hlow := hlow.ext ew34
   replace hB := ew34.z hB
   refine l_p 3 tK rfl ?_
   refine lC (o_lds tK (fun j v hv => h9.cell j v hv) rfl rfl rfl rfl rfl rfl ?_)
   refine lC (o_lds tK (fun j v hv => h2.cell j v hv) rfl rfl rfl rfl rfl rfl ?_)
   have hal := alikeM_spec t t M _ _ _ hgm ht hlow
   rw [cl_true rfl] at hal
   refine lC (o_call fo37 rfl rfl rfl (hal) ?_)
   rintro _ w35 ⟨rfl, ew35⟩
   replace hE := ew35.bl hE hB
   replace ht := Rep.ext ht ew35
   replace ha := Rep.ext ha ew35
   replace hk := hk.ext ew35
   replace hu := Rep.ext hu ew35
   replace hku := hku.ext ew35
   replace h2 := h2.ext ew35
   replace h3 := h3.ext ew35
   replace hp := hp.ext ew35
   replace hptx := hptx.ext ew35
   replace hpkx := hpkx.ext ew35
   replace hgm := Rep.ext hgm ew35
   replace hahgm := Rep.ext hahgm ew35
   replace hkhgm := hkhgm.ext ew35
   replace h9 := h9.ext ew35
   replace hrt := hrt.ext ew35
   replace hlow := hlow.ext ew35
   replace hB := ew35.z hB
   refine l_p 2 tK rfl (q1 (c_ifF rfl (c_skip (x_seq (c_seq (q0 ?_))))))
   refine lC (o_lds tK (fun j v hv => h3.cell j v hv) rfl rfl rfl rfl rfl rfl ?_)
   refine lC (o_call fo45 rfl rfl rfl (refRight_spec u _ _ _ hu hlow hpu) ?_)
   rintro _ w36 ⟨rfl, ew36⟩
   replace hE := ew36.bl hE hB
   replace ht := Rep.ext ht ew36
   replace ha := Rep.ext ha ew36
   replace hk := hk.ext ew36
   replace hu := Rep.ext hu ew36
   replace hku := hku.ext ew36
   replace h2 := h2.ext ew36
   replace h3 := h3.ext ew36
   replace hp := hp.ext ew36
   replace hptx := hptx.ext ew36
   replace hpkx := hpkx.ext ew36
   replace hgm := Rep.ext hgm ew36
   replace hahgm := Rep.ext hahgm ew36
   replace hkhgm := hkhgm.ext ew36
   replace h9 := h9.ext ew36
   replace hrt := hrt.ext ew36
   replace hlow := hlow.ext ew36
   replace hB := ew36.z hB
   refine l_p 2 tK rfl ?_
   refine l_splitB 71 _ rfl (fun c13 => ?_) (fun c13 => ?_)
   ·refine lC (o_lds tK (fun j v hv => h3.cell j v hv) rfl rfl rfl rfl rfl rfl ?_)
    refine lC (o_call fo20 rfl rfl rfl (refRow_spec u _ _ _ hu hlow hpu) ?_)
    rintro _ w37 ⟨rfl, ew37⟩
    replace hE := ew37.bl hE hB
    replace ht := Rep.ext ht ew37
    replace ha := Rep.ext ha ew37
    replace hk := hk.ext ew37
    replace hu := Rep.ext hu ew37
    replace hku := hku.ext ew37
    replace h2 := h2.ext ew37
    replace h3 := h3.ext ew37
    replace hp := hp.ext ew37
    replace hptx := hptx.ext ew37
    replace hpkx := hpkx.ext ew37
    replace hgm := Rep.ext hgm ew37
    replace hahgm := Rep.ext hahgm ew37
    replace hkhgm := hkhgm.ext ew37
    replace h9 := h9.ext ew37
    replace hrt := hrt.ext ew37
    replace hlow := hlow.ext ew37
    replace hB := ew37.z hB
    refine l_p 2 tK rfl (q1 ?_)
    refine c_ifB _ rfl (fun c14 => ?_) (fun c14 => ?_)
    ·refine q0 (l_p 1 tK rfl ?_)
     refine lC (o_conv (y := 15) tK rfl rfl rfl rfl rfl rfl rfl rfl ?_)
     refine l_p 3 tK rfl ?_
     refine lC (o_len tK hpkx rfl rfl rfl rfl rfl ?_)
     refine l_p 3 tK rfl (q1 (c_ret (x_seqR (x_ret1 rfl rfl ?_))))
     exact ⟨rfl, hE⟩
    exfalso; simp_all
   exfalso; simp_all
  | true =>
   rw [hq] at hpk
   refine lC (o_call fo42 rfl rfl rfl (hpk) ?_)
   rintro _ w38 ⟨⟨yhpk, rfl, hpkx⟩, ew38⟩
   replace hpkx : Sl M w38 yhpk (typeB u) := hpkx
   replace hE := ew38.bl hE hB
   replace ht := Rep.ext ht ew38
   replace ha := Rep.ext ha ew38
   replace hk := hk.ext ew38
   replace hu := Rep.ext hu ew38
   replace hku := hku.ext ew38
   replace h2 := h2.ext ew38
   replace h3 := h3.ext ew38
   replace hp := hp.ext ew38
   replace hptx := hptx.ext ew38
   replace hlow := hlow.ext ew38
   replace hB := ew38.z hB
   have hlb : (typeB u).length ≤ 65536 := by
    have hs : ∃ c, shapeF u c = true := by
     have hk2 := hq
     unfold rightB rowB at hk2
     simp only [Bool.or_eq_true, Bool.and_eq_true] at hk2
     rcases hk2 with h | h
     ·exact ⟨_, h.1⟩
     ·exact ⟨_, h.1⟩
    obtain ⟨c, hc⟩ := hs
    have := typeB_len hc
    omega
   refine l_p 5 tK rfl (q1 (c_seq (q0 ?_)))
   refine lC (o_lds tK (fun j v hv => h2.cell j v hv) rfl rfl rfl rfl rfl rfl ?_)
   have hrr := refTR_spec t false M _ _ ht hlow hz
   rw [hr] at hrr
   refine lC (o_call fo43 rfl rfl rfl (hrr) ?_)
   rintro _ w39 ⟨rfl, ew39⟩
   replace hE := ew39.bl hE hB
   replace ht := Rep.ext ht ew39
   replace ha := Rep.ext ha ew39
   replace hk := hk.ext ew39
   replace hu := Rep.ext hu ew39
   replace hku := hku.ext ew39
   replace h2 := h2.ext ew39
   replace h3 := h3.ext ew39
   replace hp := hp.ext ew39
   replace hptx := hptx.ext ew39
   replace hpkx := hpkx.ext ew39
   replace hlow := hlow.ext ew39
   replace hB := ew39.z hB
   refine l_p 1 tK rfl (q1 (c_ifF rfl (q0 (l_p 1 tK rfl ?_))))
   obtain ⟨ok1, gt1⟩ := getT_put hr hnM (by omega)
   have hgt := getTerm_spec (termB t) hla _ _ _ hptx hlow
   rw [ok1, cond_true, cond_true, gt1] at hgt
   refine lC (o_call fo33 rfl rfl rfl (hgt) ?_)
   rintro _ w40 ⟨⟨xhgm, rfl, hgm⟩, ew40⟩
   replace hE := ew40.bl hE hB
   replace ht := Rep.ext ht ew40
   replace ha := Rep.ext ha ew40
   replace hk := hk.ext ew40
   replace hu := Rep.ext hu ew40
   replace hku := hku.ext ew40
   replace h2 := h2.ext ew40
   replace h3 := h3.ext ew40
   replace hp := hp.ext ew40
   replace hptx := hptx.ext ew40
   replace hpkx := hpkx.ext ew40
   replace hlow := hlow.ext ew40
   replace hB := ew40.z hB
   obtain ⟨akvhgm, kvhgm, rfl, ophgm, nmhgm, aghgm, n64hgm, hahgm, hkhgm⟩ := tm_open hgm
   refine l_p 3 tK rfl ?_
   refine lC (o_new tK rfl rfl rfl ?_)
   intro b9 w41 qb9 ew41 hb9
   have nb9 := nM_of hlow qb9
   refine lC (o_st tK hb9 rfl rfl rfl rfl (Rep.one hgm) rfl rfl ?_)
   intro w42 h9 uw42 bew42
   have ew42 : Ext w40 w42 := ew41.trans (bew42 _ (Nat.le_of_eq qb9.symm))
   replace hE := ew42.bl hE hB
   replace ht := Rep.ext ht ew42
   replace ha := Rep.ext ha ew42
   replace hk := hk.ext ew42
   replace hu := Rep.ext hu ew42
   replace hku := hku.ext ew42
   replace h2 := h2.ext ew42
   replace h3 := h3.ext ew42
   replace hp := hp.ext ew42
   replace hptx := hptx.ext ew42
   replace hpkx := hpkx.ext ew42
   replace hgm := Rep.ext hgm ew42
   replace hahgm := Rep.ext hahgm ew42
   replace hkhgm := hkhgm.ext ew42
   replace hlow := hlow.ext ew42
   replace hB := ew42.z hB
   replace h9 : Box w42 b9 84 [.int .u8 t.op, .string t.name, .string t.arg, .int .i64 t.n, .bool t.has, .int .u8 t.ann.op, .string t.ann.name, .int .i64 t.ann.n, akvhgm, kvhgm] := h9
   replace h9 := h9.at nb9
   refine l_p 1 tK rfl (q1 (q0 (l_p 1 tK rfl ?_)))
   refine lC (o_conv (y := 0) tK rfl rfl rfl rfl rfl rfl rfl rfl ?_)
   refine l_p 1 tK rfl ?_
   refine lC (o_conv (y := 0) tK rfl rfl rfl rfl rfl rfl rfl rfl ?_)
   refine lC (o_ar rfl rfl rfl (z := 0) rfl rfl rfl ?_)
   refine l_p 3 tK rfl ?_
   refine lC (o_lds tK (fun j v hv => h2.cell j v hv) rfl rfl rfl rfl rfl rfl ?_)
   refine lC (o_call fo44 rfl rfl rfl (termR_spec t _ _ _ ht hlow (okM_right t false hr) (by omega)) ?_)
   rintro vhrt w43 ⟨hrt, ew43⟩
   replace hE := ew43.bl hE hB
   replace ht := Rep.ext ht ew43
   replace ha := Rep.ext ha ew43
   replace hk := hk.ext ew43
   replace hu := Rep.ext hu ew43
   replace hku := hku.ext ew43
   replace h2 := h2.ext ew43
   replace h3 := h3.ext ew43
   replace hp := hp.ext ew43
   replace hptx := hptx.ext ew43
   replace hpkx := hpkx.ext ew43
   replace hgm := Rep.ext hgm ew43
   replace hahgm := Rep.ext hahgm ew43
   replace hkhgm := hkhgm.ext ew43
   replace h9 := h9.ext ew43
   replace hlow := hlow.ext ew43
   replace hB := ew43.z hB
   have hsm15 := sameB_spec (termB t) (termB t) M _ _ _ hptx hrt
   rw [decide_eq_true rfl] at hsm15
   refine lC (o_call fo29 rfl rfl rfl (hsm15) ?_)
   rintro _ w44 ⟨rfl, ew44⟩
   replace hE := ew44.bl hE hB
   replace ht := Rep.ext ht ew44
   replace ha := Rep.ext ha ew44
   replace hk := hk.ext ew44
   replace hu := Rep.ext hu ew44
   replace hku := hku.ext ew44
   replace h2 := h2.ext ew44
   replace h3 := h3.ext ew44
   replace hp := hp.ext ew44
   replace hptx := hptx.ext ew44
   replace hpkx := hpkx.ext ew44
   replace hgm := Rep.ext hgm ew44
   replace hahgm := Rep.ext hahgm ew44
   replace hkhgm := hkhgm.ext ew44
   replace h9 := h9.ext ew44
   replace hrt := hrt.ext ew44
   replace hlow := hlow.ext ew44
   replace hB := ew44.z hB
   refine l_p 3 tK rfl ?_
   refine lC (o_lds tK (fun j v hv => h9.cell j v hv) rfl rfl rfl rfl rfl rfl ?_)
   refine lC (o_lds tK (fun j v hv => h2.cell j v hv) rfl rfl rfl rfl rfl rfl ?_)
   have hal := alikeM_spec t t M _ _ _ hgm ht hlow
   rw [cl_true rfl] at hal
   refine lC (o_call fo37 rfl rfl rfl (hal) ?_)
   rintro _ w45 ⟨rfl, ew45⟩
   replace hE := ew45.bl hE hB
   replace ht := Rep.ext ht ew45
   replace ha := Rep.ext ha ew45
   replace hk := hk.ext ew45
   replace hu := Rep.ext hu ew45
   replace hku := hku.ext ew45
   replace h2 := h2.ext ew45
   replace h3 := h3.ext ew45
   replace hp := hp.ext ew45
   replace hptx := hptx.ext ew45
   replace hpkx := hpkx.ext ew45
   replace hgm := Rep.ext hgm ew45
   replace hahgm := Rep.ext hahgm ew45
   replace hkhgm := hkhgm.ext ew45
   replace h9 := h9.ext ew45
   replace hrt := hrt.ext ew45
   replace hlow := hlow.ext ew45
   replace hB := ew45.z hB
   refine l_p 2 tK rfl (q1 (c_ifF rfl (c_skip (x_seq (c_seq (q0 ?_))))))
   refine lC (o_lds tK (fun j v hv => h3.cell j v hv) rfl rfl rfl rfl rfl rfl ?_)
   refine lC (o_call fo45 rfl rfl rfl (refRight_spec u _ _ _ hu hlow hpu) ?_)
   rintro _ w46 ⟨rfl, ew46⟩
   replace hE := ew46.bl hE hB
   replace ht := Rep.ext ht ew46
   replace ha := Rep.ext ha ew46
   replace hk := hk.ext ew46
   replace hu := Rep.ext hu ew46
   replace hku := hku.ext ew46
   replace h2 := h2.ext ew46
   replace h3 := h3.ext ew46
   replace hp := hp.ext ew46
   replace hptx := hptx.ext ew46
   replace hpkx := hpkx.ext ew46
   replace hgm := Rep.ext hgm ew46
   replace hahgm := Rep.ext hahgm ew46
   replace hkhgm := hkhgm.ext ew46
   replace h9 := h9.ext ew46
   replace hrt := hrt.ext ew46
   replace hlow := hlow.ext ew46
   replace hB := ew46.z hB
   refine l_p 2 tK rfl ?_
   refine l_splitB 71 _ rfl (fun c16 => ?_) (fun c16 => ?_)
   ·refine lC (o_lds tK (fun j v hv => h3.cell j v hv) rfl rfl rfl rfl rfl rfl ?_)
    refine lC (o_call fo20 rfl rfl rfl (refRow_spec u _ _ _ hu hlow hpu) ?_)
    rintro _ w47 ⟨rfl, ew47⟩
    replace hE := ew47.bl hE hB
    replace ht := Rep.ext ht ew47
    replace ha := Rep.ext ha ew47
    replace hk := hk.ext ew47
    replace hu := Rep.ext hu ew47
    replace hku := hku.ext ew47
    replace h2 := h2.ext ew47
    replace h3 := h3.ext ew47
    replace hp := hp.ext ew47
    replace hptx := hptx.ext ew47
    replace hpkx := hpkx.ext ew47
    replace hgm := Rep.ext hgm ew47
    replace hahgm := Rep.ext hahgm ew47
    replace hkhgm := hkhgm.ext ew47
    replace h9 := h9.ext ew47
    replace hrt := hrt.ext ew47
    replace hlow := hlow.ext ew47
    replace hB := ew47.z hB
    refine l_p 2 tK rfl (q1 ?_)
    refine c_ifB _ rfl (fun c17 => ?_) (fun c17 => ?_)
    ·exfalso; simp_all
    refine c_skip (x_seq (q0 (l_p 1 tK rfl ?_)))
    obtain ⟨ok2, gk2⟩ := getY_put hq hnT
    have hgk := getType_spec (typeB u) hlb _ _ _ hpkx hlow
    rw [ok2, cond_true, cond_true, gk2] at hgk
    refine lC (o_call fo34 rfl rfl rfl (hgk) ?_)
    rintro _ w48 ⟨⟨xhgu, rfl, hgu⟩, ew48⟩
    replace hE := ew48.bl hE hB
    replace ht := Rep.ext ht ew48
    replace ha := Rep.ext ha ew48
    replace hk := hk.ext ew48
    replace hu := Rep.ext hu ew48
    replace hku := hku.ext ew48
    replace h2 := h2.ext ew48
    replace h3 := h3.ext ew48
    replace hp := hp.ext ew48
    replace hptx := hptx.ext ew48
    replace hpkx := hpkx.ext ew48
    replace hgm := Rep.ext hgm ew48
    replace hahgm := Rep.ext hahgm ew48
    replace hkhgm := hkhgm.ext ew48
    replace h9 := h9.ext ew48
    replace hrt := hrt.ext ew48
    replace hlow := hlow.ext ew48
    replace hB := ew48.z hB
    obtain ⟨kvhgu, rfl, ophgu, nmhgu, n64hgu, hkhgu⟩ := ty_open hgu
    refine l_p 3 tK rfl ?_
    refine lC (o_new tK rfl rfl rfl ?_)
    intro b11 w49 qb11 ew49 hb11
    have nb11 := nM_of hlow qb11
    refine lC (o_st tK hb11 rfl rfl rfl rfl (Rep.one hgu) rfl rfl ?_)
    intro w50 h11 uw50 bew50
    have ew50 : Ext w48 w50 := ew49.trans (bew50 _ (Nat.le_of_eq qb11.symm))
    replace hE := ew50.bl hE hB
    replace ht := Rep.ext ht ew50
    replace ha := Rep.ext ha ew50
    replace hk := hk.ext ew50
    replace hu := Rep.ext hu ew50
    replace hku := hku.ext ew50
    replace h2 := h2.ext ew50
    replace h3 := h3.ext ew50
    replace hp := hp.ext ew50
    replace hptx := hptx.ext ew50
    replace hpkx := hpkx.ext ew50
    replace hgm := Rep.ext hgm ew50
    replace hahgm := Rep.ext hahgm ew50
    replace hkhgm := hkhgm.ext ew50
    replace h9 := h9.ext ew50
    replace hrt := hrt.ext ew50
    replace hgu := Rep.ext hgu ew50
    replace hkhgu := hkhgu.ext ew50
    replace hlow := hlow.ext ew50
    replace hB := ew50.z hB
    replace h11 : Box w50 b11 40 [.int .u8 u.op, .string u.name, .int .i64 u.n, kvhgu] := h11
    replace h11 := h11.at nb11
    refine l_p 1 tK rfl (q1 (q0 (l_p 1 tK rfl ?_)))
    refine lC (o_conv (y := 0) tK rfl rfl rfl rfl rfl rfl rfl rfl ?_)
    refine l_p 1 tK rfl ?_
    refine lC (o_conv (y := 0) tK rfl rfl rfl rfl rfl rfl rfl rfl ?_)
    refine lC (o_ar rfl rfl rfl (z := 0) rfl rfl rfl ?_)
    refine l_p 3 tK rfl ?_
    refine lC (o_lds tK (fun j v hv => h3.cell j v hv) rfl rfl rfl rfl rfl rfl ?_)
    refine lC (o_call fo46 rfl rfl rfl (typeR_spec u _ _ _ hu hlow (by omega)) ?_)
    rintro vhru w51 ⟨hru, ew51⟩
    replace hE := ew51.bl hE hB
    replace ht := Rep.ext ht ew51
    replace ha := Rep.ext ha ew51
    replace hk := hk.ext ew51
    replace hu := Rep.ext hu ew51
    replace hku := hku.ext ew51
    replace h2 := h2.ext ew51
    replace h3 := h3.ext ew51
    replace hp := hp.ext ew51
    replace hptx := hptx.ext ew51
    replace hpkx := hpkx.ext ew51
    replace hgm := Rep.ext hgm ew51
    replace hahgm := Rep.ext hahgm ew51
    replace hkhgm := hkhgm.ext ew51
    replace h9 := h9.ext ew51
    replace hrt := hrt.ext ew51
    replace hgu := Rep.ext hgu ew51
    replace hkhgu := hkhgu.ext ew51
    replace h11 := h11.ext ew51
    replace hlow := hlow.ext ew51
    replace hB := ew51.z hB
    have hsm18 := sameB_spec (typeB u) (typeB u) M _ _ _ hpkx hru
    rw [decide_eq_true rfl] at hsm18
    refine lC (o_call fo29 rfl rfl rfl (hsm18) ?_)
    rintro _ w52 ⟨rfl, ew52⟩
    replace hE := ew52.bl hE hB
    replace ht := Rep.ext ht ew52
    replace ha := Rep.ext ha ew52
    replace hk := hk.ext ew52
    replace hu := Rep.ext hu ew52
    replace hku := hku.ext ew52
    replace h2 := h2.ext ew52
    replace h3 := h3.ext ew52
    replace hp := hp.ext ew52
    replace hptx := hptx.ext ew52
    replace hpkx := hpkx.ext ew52
    replace hgm := Rep.ext hgm ew52
    replace hahgm := Rep.ext hahgm ew52
    replace hkhgm := hkhgm.ext ew52
    replace h9 := h9.ext ew52
    replace hrt := hrt.ext ew52
    replace hgu := Rep.ext hgu ew52
    replace hkhgu := hkhgu.ext ew52
    replace h11 := h11.ext ew52
    replace hru := hru.ext ew52
    replace hlow := hlow.ext ew52
    replace hB := ew52.z hB
    refine l_p 2 tK rfl ?_
    refine lC (o_lds tK (fun j v hv => h11.cell j v hv) rfl rfl rfl rfl rfl rfl ?_)
    refine lC (o_lds tK (fun j v hv => h3.cell j v hv) rfl rfl rfl rfl rfl rfl ?_)
    have hak := alike_spec u u M _ _ _ hgu hu hlow
    rw [cl_true rfl] at hak
    refine lC (o_call fo38 rfl rfl rfl (hak) ?_)
    rintro _ w53 ⟨rfl, ew53⟩
    replace hE := ew53.bl hE hB
    replace ht := Rep.ext ht ew53
    replace ha := Rep.ext ha ew53
    replace hk := hk.ext ew53
    replace hu := Rep.ext hu ew53
    replace hku := hku.ext ew53
    replace h2 := h2.ext ew53
    replace h3 := h3.ext ew53
    replace hp := hp.ext ew53
    replace hptx := hptx.ext ew53
    replace hpkx := hpkx.ext ew53
    replace hgm := Rep.ext hgm ew53
    replace hahgm := Rep.ext hahgm ew53
    replace hkhgm := hkhgm.ext ew53
    replace h9 := h9.ext ew53
    replace hrt := hrt.ext ew53
    replace hgu := Rep.ext hgu ew53
    replace hkhgu := hkhgu.ext ew53
    replace h11 := h11.ext ew53
    replace hru := hru.ext ew53
    replace hlow := hlow.ext ew53
    replace hB := ew53.z hB
    refine l_p 2 tK rfl (q1 (c_ret (x_ret1 rfl rfl ?_)))
    exact ⟨rfl, hE⟩
   refine l_p 4 tK rfl (q1 (c_ifF rfl (c_skip (x_seq (q0 (l_p 1 tK rfl ?_))))))
   obtain ⟨ok2, gk2⟩ := getY_put hq hnT
   have hgk := getType_spec (typeB u) hlb _ _ _ hpkx hlow
   rw [ok2, cond_true, cond_true, gk2] at hgk
   refine lC (o_call fo34 rfl rfl rfl (hgk) ?_)
   rintro _ w54 ⟨⟨xhgu, rfl, hgu⟩, ew54⟩
   replace hE := ew54.bl hE hB
   replace ht := Rep.ext ht ew54
   replace ha := Rep.ext ha ew54
   replace hk := hk.ext ew54
   replace hu := Rep.ext hu ew54
   replace hku := hku.ext ew54
   replace h2 := h2.ext ew54
   replace h3 := h3.ext ew54
   replace hp := hp.ext ew54
   replace hptx := hptx.ext ew54
   replace hpkx := hpkx.ext ew54
   replace hgm := Rep.ext hgm ew54
   replace hahgm := Rep.ext hahgm ew54
   replace hkhgm := hkhgm.ext ew54
   replace h9 := h9.ext ew54
   replace hrt := hrt.ext ew54
   replace hlow := hlow.ext ew54
   replace hB := ew54.z hB
   obtain ⟨kvhgu, rfl, ophgu, nmhgu, n64hgu, hkhgu⟩ := ty_open hgu
   refine l_p 3 tK rfl ?_
   refine lC (o_new tK rfl rfl rfl ?_)
   intro b11 w55 qb11 ew55 hb11
   have nb11 := nM_of hlow qb11
   refine lC (o_st tK hb11 rfl rfl rfl rfl (Rep.one hgu) rfl rfl ?_)
   intro w56 h11 uw56 bew56
   have ew56 : Ext w54 w56 := ew55.trans (bew56 _ (Nat.le_of_eq qb11.symm))
   replace hE := ew56.bl hE hB
   replace ht := Rep.ext ht ew56
   replace ha := Rep.ext ha ew56
   replace hk := hk.ext ew56
   replace hu := Rep.ext hu ew56
   replace hku := hku.ext ew56
   replace h2 := h2.ext ew56
   replace h3 := h3.ext ew56
   replace hp := hp.ext ew56
   replace hptx := hptx.ext ew56
   replace hpkx := hpkx.ext ew56
   replace hgm := Rep.ext hgm ew56
   replace hahgm := Rep.ext hahgm ew56
   replace hkhgm := hkhgm.ext ew56
   replace h9 := h9.ext ew56
   replace hrt := hrt.ext ew56
   replace hgu := Rep.ext hgu ew56
   replace hkhgu := hkhgu.ext ew56
   replace hlow := hlow.ext ew56
   replace hB := ew56.z hB
   replace h11 : Box w56 b11 40 [.int .u8 u.op, .string u.name, .int .i64 u.n, kvhgu] := h11
   replace h11 := h11.at nb11
   refine l_p 1 tK rfl (q1 (q0 (l_p 1 tK rfl ?_)))
   refine lC (o_conv (y := 0) tK rfl rfl rfl rfl rfl rfl rfl rfl ?_)
   refine l_p 1 tK rfl ?_
   refine lC (o_conv (y := 0) tK rfl rfl rfl rfl rfl rfl rfl rfl ?_)
   refine lC (o_ar rfl rfl rfl (z := 0) rfl rfl rfl ?_)
   refine l_p 3 tK rfl ?_
   refine lC (o_lds tK (fun j v hv => h3.cell j v hv) rfl rfl rfl rfl rfl rfl ?_)
   refine lC (o_call fo46 rfl rfl rfl (typeR_spec u _ _ _ hu hlow (by omega)) ?_)
   rintro vhru w57 ⟨hru, ew57⟩
   replace hE := ew57.bl hE hB
   replace ht := Rep.ext ht ew57
   replace ha := Rep.ext ha ew57
   replace hk := hk.ext ew57
   replace hu := Rep.ext hu ew57
   replace hku := hku.ext ew57
   replace h2 := h2.ext ew57
   replace h3 := h3.ext ew57
   replace hp := hp.ext ew57
   replace hptx := hptx.ext ew57
   replace hpkx := hpkx.ext ew57
   replace hgm := Rep.ext hgm ew57
   replace hahgm := Rep.ext hahgm ew57
   replace hkhgm := hkhgm.ext ew57
   replace h9 := h9.ext ew57
   replace hrt := hrt.ext ew57
   replace hgu := Rep.ext hgu ew57
   replace hkhgu := hkhgu.ext ew57
   replace h11 := h11.ext ew57
   replace hlow := hlow.ext ew57
   replace hB := ew57.z hB
   have hsm19 := sameB_spec (typeB u) (typeB u) M _ _ _ hpkx hru
   rw [decide_eq_true rfl] at hsm19
   refine lC (o_call fo29 rfl rfl rfl (hsm19) ?_)
   rintro _ w58 ⟨rfl, ew58⟩
   replace hE := ew58.bl hE hB
   replace ht := Rep.ext ht ew58
   replace ha := Rep.ext ha ew58
   replace hk := hk.ext ew58
   replace hu := Rep.ext hu ew58
   replace hku := hku.ext ew58
   replace h2 := h2.ext ew58
   replace h3 := h3.ext ew58
   replace hp := hp.ext ew58
   replace hptx := hptx.ext ew58
   replace hpkx := hpkx.ext ew58
   replace hgm := Rep.ext hgm ew58
   replace hahgm := Rep.ext hahgm ew58
   replace hkhgm := hkhgm.ext ew58
   replace h9 := h9.ext ew58
   replace hrt := hrt.ext ew58
   replace hgu := Rep.ext hgu ew58
   replace hkhgu := hkhgu.ext ew58
   replace h11 := h11.ext ew58
   replace hru := hru.ext ew58
   replace hlow := hlow.ext ew58
   replace hB := ew58.z hB
   refine l_p 2 tK rfl ?_
   refine lC (o_lds tK (fun j v hv => h11.cell j v hv) rfl rfl rfl rfl rfl rfl ?_)
   refine lC (o_lds tK (fun j v hv => h3.cell j v hv) rfl rfl rfl rfl rfl rfl ?_)
   have hak := alike_spec u u M _ _ _ hgu hu hlow
   rw [cl_true rfl] at hak
   refine lC (o_call fo38 rfl rfl rfl (hak) ?_)
   rintro _ w59 ⟨rfl, ew59⟩
   replace hE := ew59.bl hE hB
   replace ht := Rep.ext ht ew59
   replace ha := Rep.ext ha ew59
   replace hk := hk.ext ew59
   replace hu := Rep.ext hu ew59
   replace hku := hku.ext ew59
   replace h2 := h2.ext ew59
   replace h3 := h3.ext ew59
   replace hp := hp.ext ew59
   replace hptx := hptx.ext ew59
   replace hpkx := hpkx.ext ew59
   replace hgm := Rep.ext hgm ew59
   replace hahgm := Rep.ext hahgm ew59
   replace hkhgm := hkhgm.ext ew59
   replace h9 := h9.ext ew59
   replace hrt := hrt.ext ew59
   replace hgu := Rep.ext hgu ew59
   replace hkhgu := hkhgu.ext ew59
   replace h11 := h11.ext ew59
   replace hru := hru.ext ew59
   replace hlow := hlow.ext ew59
   replace hB := ew59.z hB
   refine l_p 2 tK rfl (q1 (c_ret (x_ret1 rfl rfl ?_)))
   exact ⟨rfl, hE⟩
end Go.Proofs.Ytohfnpmehgpphaa
