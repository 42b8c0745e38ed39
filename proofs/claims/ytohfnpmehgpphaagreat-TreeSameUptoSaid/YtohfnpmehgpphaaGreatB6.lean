/- Part 6 of the proof: rules, plain laws and walks, merged out of smaller texts. -/
import Derived.Test.YtohfnpmehgpphaaGreatB5
namespace Go.Proofs.YtohfnpmehgpphaaGreat
open Go Rw Go.RowKit
set_option maxRecDepth 100000
theorem mapM_same {l k : List Tm} {i : Nat} (hi : i < l.length) (hk : i < k.length) (h : (l.take i).map canonT = (k.take i).map canonT) (e : canonT l[i] = canonT k[i]) : (l.take (i + 1)).map canonT = (k.take (i + 1)).map canonT := by
  rw [List.take_succ_eq_append_getElem hi, List.take_succ_eq_append_getElem hk, List.map_append, List.map_append, h, List.map_singleton, List.map_singleton, e]
theorem equalM_spec (l k : List Tm) (M : Nat → Prop) (w : World) (v u : Value) (hf : ∀ x ∈ l, ∀ (y : Tm) (M : Nat → Prop) (w : World) (v u : Value), (∃ b, rightT x b = true) → (∃ b, rightT y b = true) → AnnS x → AnnS y → Rep.R M w v x → Rep.R M w u y → Low M w → Calls Tryz.prog 33 #[v, u] w (Ret fun r w' => r = .bool (@decide (canonT x = canonT y) (Classical.propDecidable _)) ∧ Ext w w'))
    (hl : ∀ x ∈ l, (∃ b, rightT x b = true) ∧ AnnS x) (hl2 : ∀ x ∈ k, (∃ b, rightT x b = true) ∧ AnnS x) (hs : Sl M w v l) (hk : Sl M w u k) (hlow : Low M w) :
    Calls Tryz.prog 58 #[v, u, .func (.func 33) #[] #[]] w (Ret fun r w' => r = .bool (@decide (l.map canonT = k.map canonT) (Classical.propDecidable _)) ∧ Ext w w') := by
  have hE : Below w.heap.size w w := Below.refl _ _
  have hB : w.heap.size ≤ w.heap.size := Nat.le_refl _
  have hL := hs.lt
  refine c_enter (n := 32) Tryz.func58 rfl rfl rfl ?_
  refine q0 (l_p 1 tK rfl (q1 (c_seq (q0 (l_p 1 tK rfl ?_)))))
  refine lC (o_len tK hs rfl rfl rfl rfl rfl ?_)
  refine l_p 1 tK rfl ?_
  refine lC (o_len tK hk rfl rfl rfl rfl rfl ?_)
  refine l_p 1 tK rfl (q1 ?_)
  refine c_ifN _ rfl (fun c1 => ?_) (fun c1 => ?_)
  · refine q0 (l_p 1 tK rfl (q1 (c_ret (x_seqR (x_ret1 rfl rfl ?_)))))
    exact ⟨by rw [cl_false (fun e => by have := congrArg List.length e; simp only [List.length_map] at this; omega)], hE⟩
  refine c_skip (x_seq (c_seq (q0 (l_p 1 tK rfl ?_))))
  refine lC (o_len tK hs rfl rfl rfl rfl rfl ?_)
  refine l_p 1 tK rfl (q1 (c_blk ?_))
  have hll : l.length = k.length := by omega
  refine c_loop (X := Nat) (fun i => [(1, u), (2, .func (.func 33) #[] #[]), (15, v), (16, .int .i64 (l.length : Int)), (17, .int .i64 (i : Nat))]) (fun i w' => i ≤ l.length ∧ (l.take i).map canonT = (k.take i).map canonT ∧ Sl M w' v l ∧ Sl M w' u k ∧ Low M w' ∧ Below w.heap.size w w' ∧ w.heap.size ≤ w'.heap.size) (fun i => l.length - i) (0) (s5 rfl rfl rfl rfl rfl) ?_ ?_
  · exact ⟨Nat.zero_le _, rfl, hs, hk, hlow, hE, hB⟩
  rintro i w1 ⟨hi, htk, hs, hk, hlow, hE, hB⟩
  refine q0 (l_p 1 tK rfl (q1 (c_seq ?_)))
  refine c_ifP _ rfl (fun c2 => ?_) (fun c2 => ?_)
  · have hil : i < l.length := by omega
    have hik : i < k.length := by omega
    have hz1 := hl _ (List.getElem_mem hil)
    have hz2 := hl2 _ (List.getElem_mem hik)
    refine c_skip (x_seq (c_seq (c_blk (q0 (l_p 1 tK rfl ?_)))))
    refine lC (o_ixS tK hs (List.getElem?_eq_getElem hil) rfl rfl rfl rfl rfl rfl rfl rfl rfl ?_)
    intro ebx eox eux hyx hatx
    obtain ⟨akvx, kvx, rfl, opx, nmx, agx, n64x, hax, hkx⟩ := tm_open hyx
    replace hatx : At M w1 ebx eox [.int .u8 l[i].op, .string l[i].name, .string l[i].arg, .int .i64 l[i].n, .bool l[i].has, .int .u8 l[i].ann.op, .string l[i].ann.name, .int .i64 l[i].ann.n, akvx, kvx] := hatx
    refine lC (o_lds tK (fun j v hv => hatx.cell j v hv) rfl rfl rfl rfl rfl rfl ?_)
    refine lC (o_new tK rfl rfl rfl ?_)
    intro b8 w2 qb8 ew2 hb8
    have nb8 := nM_of hlow qb8
    refine l_p 1 tK rfl ?_
    refine lC (o_st tK hb8 rfl rfl rfl rfl (Rep.one hyx) rfl rfl ?_)
    intro w3 h8 uw3 bew3
    have ew3 : Ext w1 w3 := ew2.trans (bew3 _ (Nat.le_of_eq qb8.symm))
    replace hE := ew3.bl hE hB
    replace hs := hs.ext ew3
    replace hk := hk.ext ew3
    replace hyx := Rep.ext hyx ew3
    replace hax := Rep.ext hax ew3
    replace hkx := hkx.ext ew3
    replace hatx := hatx.ext ew3
    replace hlow := hlow.ext ew3
    replace hB := ew3.z hB
    replace h8 : Box w3 b8 28 [.int .u8 l[i].op, .string l[i].name, .string l[i].arg, .int .i64 l[i].n, .bool l[i].has, .int .u8 l[i].ann.op, .string l[i].ann.name, .int .i64 l[i].ann.n, akvx, kvx] := h8
    replace h8 := h8.at nb8
    refine q1 (q0 (l_p 2 tK rfl ?_))
    refine lC (o_ixS tK hk (List.getElem?_eq_getElem hik) rfl rfl rfl rfl rfl rfl rfl rfl rfl ?_)
    intro eby eoy euy hyy haty
    obtain ⟨akvy, kvy, rfl, opy, nmy, agy, n64y, hay, hky⟩ := tm_open hyy
    replace haty : At M w3 eby eoy [.int .u8 k[i].op, .string k[i].name, .string k[i].arg, .int .i64 k[i].n, .bool k[i].has, .int .u8 k[i].ann.op, .string k[i].ann.name, .int .i64 k[i].ann.n, akvy, kvy] := haty
    refine lC (o_lds tK (fun j v hv => haty.cell j v hv) rfl rfl rfl rfl rfl rfl ?_)
    refine lC (o_new tK rfl rfl rfl ?_)
    intro b9 w4 qb9 ew4 hb9
    have nb9 := nM_of hlow qb9
    refine lC (o_st tK hb9 rfl rfl rfl rfl (Rep.one hyy) rfl rfl ?_)
    intro w5 h9 uw5 bew5
    have ew5 : Ext w3 w5 := ew4.trans (bew5 _ (Nat.le_of_eq qb9.symm))
    replace hE := ew5.bl hE hB
    replace hs := hs.ext ew5
    replace hk := hk.ext ew5
    replace hyx := Rep.ext hyx ew5
    replace hax := Rep.ext hax ew5
    replace hkx := hkx.ext ew5
    replace hatx := hatx.ext ew5
    replace h8 := h8.ext ew5
    replace hyy := Rep.ext hyy ew5
    replace hay := Rep.ext hay ew5
    replace hky := hky.ext ew5
    replace haty := haty.ext ew5
    replace hlow := hlow.ext ew5
    replace hB := ew5.z hB
    replace h9 : Box w5 b9 28 [.int .u8 k[i].op, .string k[i].name, .string k[i].arg, .int .i64 k[i].n, .bool k[i].has, .int .u8 k[i].ann.op, .string k[i].ann.name, .int .i64 k[i].ann.n, akvy, kvy] := h9
    replace h9 := h9.at nb9
    refine q1 (q0 (l_p 1 tK rfl ?_))
    refine lC (o_lds tK (fun j v hv => h8.cell j v hv) rfl rfl rfl rfl rfl rfl ?_)
    refine lC (o_lds tK (fun j v hv => h9.cell j v hv) rfl rfl rfl rfl rfl rfl ?_)
    refine lC (o_dyn rfl fo33 rfl rfl rfl (hf _ (List.getElem_mem hil) _ _ _ _ _ hz1.1 hz2.1 hz1.2 hz2.2 hyx hyy hlow) ?_)
    rintro _ w6 ⟨rfl, ew6⟩
    replace hE := ew6.bl hE hB
    replace hs := hs.ext ew6
    replace hk := hk.ext ew6
    replace hyx := Rep.ext hyx ew6
    replace hax := Rep.ext hax ew6
    replace hkx := hkx.ext ew6
    replace hatx := hatx.ext ew6
    replace h8 := h8.ext ew6
    replace hyy := Rep.ext hyy ew6
    replace hay := Rep.ext hay ew6
    replace hky := hky.ext ew6
    replace haty := haty.ext ew6
    replace h9 := h9.ext ew6
    replace hlow := hlow.ext ew6
    replace hB := ew6.z hB
    refine l_p 1 tK rfl (q1 ?_)
    refine c_ifB _ rfl (fun c3 => ?_) (fun c3 => ?_)
    · refine q0 (l_p 1 tK rfl (q1 (c_ret (x_blkR (x_seqR (x_seqR (x_blkR (x_seqR (x_ret1 rfl rfl ?_)))))))))
      exact ⟨by rw [cl_false (fun e => by
        have h5 : (l.map canonT)[i]? = (k.map canonT)[i]? := by rw [e]
        rw [List.getElem?_map, List.getElem?_map, List.getElem?_eq_getElem hil, List.getElem?_eq_getElem hik] at h5
        exact absurd (by simpa using h5) (cl_not c3))], hE⟩
    refine c_skip (x_blk (x_seq (c_reg ?_)))
    refine lC (o_ai rfl rfl rfl (by omega) rfl rfl ?_)
    refine l_p 1 tK rfl (l_nil ?_)
    exact x_round (i + 1) (s5 rfl rfl rfl rfl (get_num rfl (by omega))) ⟨by omega, mapM_same hil hik htk (cl_of (by simpa using c3)), hs, hk, hlow, hE, hB⟩ (by omega)
  refine c_exit (x_seqE (x_seqE (x_blkE (x_seq (q0 (l_p 1 tK rfl (q1 (c_ret (x_ret1 rfl rfl ?_)))))))))
  exact ⟨by rw [cl_true (by have := htk; rwa [List.take_of_length_le (by omega), List.take_of_length_le (by omega)] at this)], hE⟩
theorem alikeT_spec : ∀ (t : Tm) (s : Tm) (M : Nat → Prop) (w : World) (v u : Value), (∃ b, rightT t b = true) → (∃ b, rightT s b = true) → AnnS t → AnnS s → Rep.R M w v t → Rep.R M w u s → Low M w → Calls Tryz.prog 33 #[v, u] w (Ret fun r w' => r = .bool (@decide (canonT t = canonT s) (Classical.propDecidable _)) ∧ Ext w w') := by
  refine Tm.ind fun t ih => ?_
  intro s M w v u hx hy hz hzs ht hs hlow
  have hE : Below w.heap.size w w := Below.refl _ _
  have hB : w.heap.size ≤ w.heap.size := Nat.le_refl _
  obtain ⟨bx, hx⟩ := hx
  obtain ⟨by9, hy⟩ := hy
  have hkx := fun k hk => (right_kids hx).2.1 k hk
  have hky := fun k hk => (right_kids hy).2.1 k hk
  obtain ⟨akv, kv, rfl, op, nm, ag, n64, ha, hk⟩ := tm_open ht
  obtain ⟨akvs, kvs, rfl, ops, nms, ags, n64s, has, hks⟩ := tm_open hs
  refine c_enter (n := 55) Tryz.func33 rfl rfl rfl ?_
  refine q0 ?_
  refine lC (o_box rfl rfl rfl ?_)
  intro b2 w1 hb_b2 ew1 h2
  replace h2 : Box _ b2 28 [.int .u8 t.op, .string t.name, .string t.arg, .int .i64 t.n, .bool t.has, .int .u8 t.ann.op, .string t.ann.name, .int .i64 t.ann.n, akv, kv] := h2
  replace h2 := h2.at (nM_of hlow hb_b2)
  replace hE := ew1.bl hE hB
  replace ht := Rep.ext ht ew1
  replace ha := Rep.ext ha ew1
  replace hk := hk.ext ew1
  replace hs := Rep.ext hs ew1
  replace has := Rep.ext has ew1
  replace hks := hks.ext ew1
  replace hlow := hlow.ext ew1
  replace hB := ew1.z hB
  refine lC (o_box rfl rfl rfl ?_)
  intro b3 w2 hb_b3 ew2 h3
  replace h3 : Box _ b3 28 [.int .u8 s.op, .string s.name, .string s.arg, .int .i64 s.n, .bool s.has, .int .u8 s.ann.op, .string s.ann.name, .int .i64 s.ann.n, akvs, kvs] := h3
  replace h3 := h3.at (nM_of hlow hb_b3)
  replace hE := ew2.bl hE hB
  replace ht := Rep.ext ht ew2
  replace ha := Rep.ext ha ew2
  replace hk := hk.ext ew2
  replace hs := Rep.ext hs ew2
  replace has := Rep.ext has ew2
  replace hks := hks.ext ew2
  replace h2 := h2.ext ew2
  replace hlow := hlow.ext ew2
  replace hB := ew2.z hB
  refine l_p 1 tK rfl (q1 (c_seq (q0 (l_p 1 tK rfl ?_))))
  refine lC (o_ld tK (h2.cell 0 _ rfl) rfl rfl rfl rfl rfl ?_)
  refine l_p 1 tK rfl ?_
  refine lC (o_ld tK (h3.cell 0 _ rfl) rfl rfl rfl rfl rfl ?_)
  refine l_p 2 tK rfl ?_
  refine l_splitN 10 _ rfl (fun c1 => ?_) (fun c1 => ?_)
  · refine l_p 27 tK rfl (q1 (c_ifT rfl (q0 (l_p 1 tK rfl (q1 (c_ret (x_seqR (x_ret1 rfl rfl ?_))))))))
    exact ⟨by rw [cl_false (fun e => by
      obtain ⟨e1, e2, e3, e4, e5, e6, e7⟩ := (canonT_iff t s).1 e
      clear ih ht hs hk hks ha has h2 h3 hkx hky hx hy hz hzs
      simp_all)], hE⟩
  refine l_p 1 tK rfl ?_
  refine lC (o_ld tK (h2.cell 1 _ rfl) rfl rfl rfl rfl rfl ?_)
  refine l_p 1 tK rfl ?_
  refine lC (o_ld tK (h3.cell 1 _ rfl) rfl rfl rfl rfl rfl ?_)
  refine l_p 3 tK rfl ?_
  refine l_splitN 17 _ rfl (fun c2 => ?_) (fun c2 => ?_)
  · refine l_p 20 tK rfl (q1 (c_ifT rfl (q0 (l_p 1 tK rfl (q1 (c_ret (x_seqR (x_ret1 rfl rfl ?_))))))))
    exact ⟨by rw [cl_false (fun e => by
      obtain ⟨e1, e2, e3, e4, e5, e6, e7⟩ := (canonT_iff t s).1 e
      clear ih ht hs hk hks ha has h2 h3 hkx hky hx hy hz hzs
      simp_all)], hE⟩
  refine l_p 1 tK rfl ?_
  refine lC (o_ld tK (h2.cell 2 _ rfl) rfl rfl rfl rfl rfl ?_)
  refine l_p 1 tK rfl ?_
  refine lC (o_ld tK (h3.cell 2 _ rfl) rfl rfl rfl rfl rfl ?_)
  refine l_p 3 tK rfl ?_
  refine l_splitN 24 _ rfl (fun c3 => ?_) (fun c3 => ?_)
  · refine l_p 13 tK rfl (q1 (c_ifT rfl (q0 (l_p 1 tK rfl (q1 (c_ret (x_seqR (x_ret1 rfl rfl ?_))))))))
    exact ⟨by rw [cl_false (fun e => by
      obtain ⟨e1, e2, e3, e4, e5, e6, e7⟩ := (canonT_iff t s).1 e
      clear ih ht hs hk hks ha has h2 h3 hkx hky hx hy hz hzs
      simp_all)], hE⟩
  refine l_p 1 tK rfl ?_
  refine lC (o_ld tK (h2.cell 3 _ rfl) rfl rfl rfl rfl rfl ?_)
  refine l_p 1 tK rfl ?_
  refine lC (o_ld tK (h3.cell 3 _ rfl) rfl rfl rfl rfl rfl ?_)
  refine l_p 3 tK rfl ?_
  refine l_splitN 31 _ rfl (fun c4 => ?_) (fun c4 => ?_)
  · refine l_p 6 tK rfl (q1 (c_ifT rfl (q0 (l_p 1 tK rfl (q1 (c_ret (x_seqR (x_ret1 rfl rfl ?_))))))))
    exact ⟨by rw [cl_false (fun e => by
      obtain ⟨e1, e2, e3, e4, e5, e6, e7⟩ := (canonT_iff t s).1 e
      clear ih ht hs hk hks ha has h2 h3 hkx hky hx hy hz hzs
      simp_all)], hE⟩
  refine l_p 1 tK rfl ?_
  refine lC (o_ld tK (h2.cell 4 _ rfl) rfl rfl rfl rfl rfl ?_)
  refine l_p 1 tK rfl ?_
  refine lC (o_ld tK (h3.cell 4 _ rfl) rfl rfl rfl rfl rfl ?_)
  refine lC (o_bne tK rfl rfl rfl rfl rfl rfl ?_)
  refine l_p 1 tK rfl (q1 ?_)
  refine c_if _ rfl (fun c5 => ?_) (fun c5 => ?_)
  · refine q0 (l_p 1 tK rfl (q1 (c_ret (x_seqR (x_ret1 rfl rfl ?_)))))
    exact ⟨by rw [cl_false (fun e => by
      obtain ⟨e1, e2, e3, e4, e5, e6, e7⟩ := (canonT_iff t s).1 e
      clear ih ht hs hk hks ha has h2 h3 hkx hky hx hy hz hzs
      simp_all)], hE⟩
  have hhe : t.has = s.has := by simpa using c5
  refine c_skip (x_seq (q0 (l_p 1 tK rfl ?_)))
  refine lC (o_ld tK (h2.cell 4 _ rfl) rfl rfl rfl rfl rfl ?_)
  refine l_p 2 tK rfl ?_
  refine l_splitB 41 _ rfl (fun c6 => ?_) (fun c6 => ?_)
  · have hh1 : t.has = false := by simpa using c6
    have hh2 : s.has = false := hhe ▸ hh1
    have hann : (bif t.has then canonF t.ann else t.ann) = (bif s.has then canonF s.ann else s.ann) := by rw [hh1, hh2, cond_false, cond_false, (right_note hx).2 hh1, (right_note hy).2 hh2]
    refine l_p 8 tK rfl ?_
    refine lC (o_ld tK (h2.cell 9 _ rfl) rfl rfl rfl rfl rfl ?_)
    refine l_p 1 tK rfl ?_
    refine lC (o_ld tK (h3.cell 9 _ rfl) rfl rfl rfl rfl rfl ?_)
    refine lC (o_call fo58 rfl rfl rfl (equalM_spec t.kids s.kids M _ _ _ ih (fun x hx => ⟨hkx x hx, hz.kid hx⟩) (fun x hx => ⟨hky x hx, hzs.kid hx⟩) hk hks hlow) ?_)
    rintro _ w3 ⟨rfl, ew3⟩
    replace hE := ew3.bl hE hB
    replace ht := Rep.ext ht ew3
    replace ha := Rep.ext ha ew3
    replace hk := hk.ext ew3
    replace hs := Rep.ext hs ew3
    replace has := Rep.ext has ew3
    replace hks := hks.ext ew3
    replace h2 := h2.ext ew3
    replace h3 := h3.ext ew3
    replace hlow := hlow.ext ew3
    replace hB := ew3.z hB
    refine l_p 2 tK rfl (q1 (c_ret (x_ret1 rfl rfl ?_)))
    have hkk := (canonT_iff t s)
    refine ⟨?_, hE⟩
    congr 1
    by_cases h : t.kids.map canonT = s.kids.map canonT
    · rw [cl_true h, cl_true (hkk.2 ⟨by omega, by simp_all only, by simp_all only, by omega, hhe, hann, h⟩)]
    · rw [cl_false h, cl_false (fun e => h (hkk.1 e).2.2.2.2.2.2)]
  have hh1 : t.has = true := by simpa using c6
  have hh2 : s.has = true := hhe ▸ hh1
  obtain ⟨hr1, _⟩ := (right_note hx).1 hh1
  obtain ⟨hr2, _⟩ := (right_note hy).1 hh2
  refine l_p 1 tK rfl ?_
  refine lC (o_lds tK (fun j v hv => (h2).mid 5 (sub := [.int .u8 t.ann.op, .string t.ann.name, .int .i64 t.ann.n, akv]) rfl j v hv) rfl rfl rfl rfl rfl rfl ?_)
  refine l_p 1 tK rfl ?_
  refine lC (o_lds tK (fun j v hv => (h3).mid 5 (sub := [.int .u8 s.ann.op, .string s.ann.name, .int .i64 s.ann.n, akvs]) rfl j v hv) rfl rfl rfl rfl rfl rfl ?_)
  have hks9 := kSame_spec t.ann s.ann M _ _ _ ha has hlow hz.self hzs.self
  rw [hr1, hr2, Bool.true_or, Bool.true_or, Bool.true_and, Bool.true_and] at hks9
  refine lC (o_call fo57 rfl rfl rfl (hks9) ?_)
  rintro _ w4 ⟨rfl, ew4⟩
  replace hE := ew4.bl hE hB
  replace ht := Rep.ext ht ew4
  replace ha := Rep.ext ha ew4
  replace hk := hk.ext ew4
  replace hs := Rep.ext hs ew4
  replace has := Rep.ext has ew4
  replace hks := hks.ext ew4
  replace h2 := h2.ext ew4
  replace h3 := h3.ext ew4
  replace hlow := hlow.ext ew4
  replace hB := ew4.z hB
  refine l_p 2 tK rfl ?_
  refine l_split 48 _ rfl (fun c7 => ?_) (fun c7 => ?_)
  · have hann : (bif t.has then canonF t.ann else t.ann) = (bif s.has then canonF s.ann else s.ann) := by rw [hh1, hh2, cond_true, cond_true]; exact cl_of (by simpa using c7)
    refine l_p 1 tK rfl ?_
    refine lC (o_ld tK (h2.cell 9 _ rfl) rfl rfl rfl rfl rfl ?_)
    refine l_p 1 tK rfl ?_
    refine lC (o_ld tK (h3.cell 9 _ rfl) rfl rfl rfl rfl rfl ?_)
    refine lC (o_call fo58 rfl rfl rfl (equalM_spec t.kids s.kids M _ _ _ ih (fun x hx => ⟨hkx x hx, hz.kid hx⟩) (fun x hx => ⟨hky x hx, hzs.kid hx⟩) hk hks hlow) ?_)
    rintro _ w5 ⟨rfl, ew5⟩
    replace hE := ew5.bl hE hB
    replace ht := Rep.ext ht ew5
    replace ha := Rep.ext ha ew5
    replace hk := hk.ext ew5
    replace hs := Rep.ext hs ew5
    replace has := Rep.ext has ew5
    replace hks := hks.ext ew5
    replace h2 := h2.ext ew5
    replace h3 := h3.ext ew5
    replace hlow := hlow.ext ew5
    replace hB := ew5.z hB
    refine l_p 2 tK rfl (q1 (c_ret (x_ret1 rfl rfl ?_)))
    have hkk := (canonT_iff t s)
    refine ⟨?_, hE⟩
    congr 1
    by_cases h : t.kids.map canonT = s.kids.map canonT
    · rw [cl_true h, cl_true (hkk.2 ⟨by omega, by simp_all only, by simp_all only, by omega, hhe, hann, h⟩)]
    · rw [cl_false h, cl_false (fun e => h (hkk.1 e).2.2.2.2.2.2)]
  have hann : ¬ (bif t.has then canonF t.ann else t.ann) = (bif s.has then canonF s.ann else s.ann) := by rw [hh1, hh2, cond_true, cond_true]; exact cl_not (by simpa using c7)
  refine l_p 7 tK rfl (q1 (c_ret (x_ret1 rfl rfl ?_)))
  exact ⟨by rw [cl_false (fun e => by
    obtain ⟨e1, e2, e3, e4, e5, e6, e7⟩ := (canonT_iff t s).1 e
    clear ih ht hs hk hks ha has h2 h3 hkx hky hx hy hz hzs
    simp_all)], hE⟩
theorem sameT_spec (t s : Tm) (M : Nat → Prop) (w : World) (v u : Value) (ht : Rep.R M w v t) (hs : Rep.R M w u s) (hlow : Low M w) (hz : AnnS t) (hzs : AnnS s) :
    Calls Tryz.prog 17 #[v, u] w (Ret fun r w' => r = .bool (rightT t false && (rightT s false && (@decide (canonT t = canonT s) (Classical.propDecidable _)))) ∧ Ext w w') := by
  have hE : Below w.heap.size w w := Below.refl _ _
  have hB : w.heap.size ≤ w.heap.size := Nat.le_refl _
  obtain ⟨akv, kv, rfl, op, nm, ag, n64, ha, hk⟩ := tm_open ht
  obtain ⟨akvs, kvs, rfl, ops, nms, ags, n64s, has, hks⟩ := tm_open hs
  refine c_enter (n := 16) Tryz.func17 rfl rfl rfl ?_
  refine q0 ?_
  refine lC (o_box rfl rfl rfl ?_)
  intro b2 w1 hb_b2 ew1 h2
  replace h2 : Box _ b2 28 [.int .u8 t.op, .string t.name, .string t.arg, .int .i64 t.n, .bool t.has, .int .u8 t.ann.op, .string t.ann.name, .int .i64 t.ann.n, akv, kv] := h2
  replace h2 := h2.at (nM_of hlow hb_b2)
  replace hE := ew1.bl hE hB
  replace ht := Rep.ext ht ew1
  replace ha := Rep.ext ha ew1
  replace hk := hk.ext ew1
  replace hs := Rep.ext hs ew1
  replace has := Rep.ext has ew1
  replace hks := hks.ext ew1
  replace hlow := hlow.ext ew1
  replace hB := ew1.z hB
  refine lC (o_box rfl rfl rfl ?_)
  intro b3 w2 hb_b3 ew2 h3
  replace h3 : Box _ b3 28 [.int .u8 s.op, .string s.name, .string s.arg, .int .i64 s.n, .bool s.has, .int .u8 s.ann.op, .string s.ann.name, .int .i64 s.ann.n, akvs, kvs] := h3
  replace h3 := h3.at (nM_of hlow hb_b3)
  replace hE := ew2.bl hE hB
  replace ht := Rep.ext ht ew2
  replace ha := Rep.ext ha ew2
  replace hk := hk.ext ew2
  replace hs := Rep.ext hs ew2
  replace has := Rep.ext has ew2
  replace hks := hks.ext ew2
  replace h2 := h2.ext ew2
  replace hlow := hlow.ext ew2
  replace hB := ew2.z hB
  refine l_p 1 tK rfl (q1 (q0 ?_))
  refine lC (o_lds tK (fun j v hv => h2.cell j v hv) rfl rfl rfl rfl rfl rfl ?_)
  refine lC (o_call fo9 rfl rfl rfl (tRight_spec t M _ _ ht hlow hz) ?_)
  rintro _ w3 ⟨rfl, ew3⟩
  replace hE := ew3.bl hE hB
  replace ht := Rep.ext ht ew3
  replace ha := Rep.ext ha ew3
  replace hk := hk.ext ew3
  replace hs := Rep.ext hs ew3
  replace has := Rep.ext has ew3
  replace hks := hks.ext ew3
  replace h2 := h2.ext ew3
  replace h3 := h3.ext ew3
  replace hlow := hlow.ext ew3
  replace hB := ew3.z hB
  refine l_p 1 tK rfl ?_
  refine l_split 7 _ rfl (fun c1 => ?_) (fun c1 => ?_)
  · refine lC (o_lds tK (fun j v hv => h3.cell j v hv) rfl rfl rfl rfl rfl rfl ?_)
    refine lC (o_call fo9 rfl rfl rfl (tRight_spec s M _ _ hs hlow hzs) ?_)
    rintro _ w4 ⟨rfl, ew4⟩
    replace hE := ew4.bl hE hB
    replace ht := Rep.ext ht ew4
    replace ha := Rep.ext ha ew4
    replace hk := hk.ext ew4
    replace hs := Rep.ext hs ew4
    replace has := Rep.ext has ew4
    replace hks := hks.ext ew4
    replace h2 := h2.ext ew4
    replace h3 := h3.ext ew4
    replace hlow := hlow.ext ew4
    replace hB := ew4.z hB
    refine l_p 2 tK rfl ?_
    refine l_split 11 _ rfl (fun c2 => ?_) (fun c2 => ?_)
    · refine lC (o_lds tK (fun j v hv => h2.cell j v hv) rfl rfl rfl rfl rfl rfl ?_)
      refine lC (o_lds tK (fun j v hv => h3.cell j v hv) rfl rfl rfl rfl rfl rfl ?_)
      refine lC (o_call fo33 rfl rfl rfl (alikeT_spec t s M _ _ _ ⟨_, c1⟩ ⟨_, c2⟩ hz hzs ht hs hlow) ?_)
      rintro _ w5 ⟨rfl, ew5⟩
      replace hE := ew5.bl hE hB
      replace ht := Rep.ext ht ew5
      replace ha := Rep.ext ha ew5
      replace hk := hk.ext ew5
      replace hs := Rep.ext hs ew5
      replace has := Rep.ext has ew5
      replace hks := hks.ext ew5
      replace h2 := h2.ext ew5
      replace h3 := h3.ext ew5
      replace hlow := hlow.ext ew5
      replace hB := ew5.z hB
      refine l_p 2 tK rfl (q1 (c_ret (x_ret1 rfl rfl ?_)))
      exact ⟨by simp [c1, c2], hE⟩
    refine l_p 5 tK rfl (q1 (c_ret (x_ret1 rfl rfl ?_)))
    exact ⟨by simp [c1, c2], hE⟩
  refine l_p 9 tK rfl (q1 (c_ret (x_ret1 rfl rfl ?_)))
  exact ⟨by simp [c1], hE⟩
theorem refCanonM_spec : ∀ (t : Tm) (b : Bool) (M : Nat → Prop) (w : World) (v : Value), rightT t b = true → Rep.R M w v t → Low M w → AnnS t → nsz t ≤ 2000000 → Calls Tryz.prog 16 #[v] w (Ret fun r w' => Rep.R M w' r (canonT t) ∧ Ext w w') := by
  refine Tm.ind fun t ih => ?_
  intro b M w v hr ht hlow0 hz hsz
  have hlow := hlow0
  have hB : w.heap.size ≤ w.heap.size := Nat.le_refl _
  have hE : Below w.heap.size w w := Below.refl _ _
  have hsub : ∀ b, M b → M b := fun _ h => h
  obtain ⟨akv, kv, rfl, op, nm, ag, n64, ha, hk⟩ := tm_open ht
  have hps := nsz_eq t
  have hkl := len_nsz t.kids
  have hzs := hz.self
  have hnote := right_note hr
  have hkx := fun k hk => (right_kids hr).2.1 k hk
  obtain ⟨A, hA⟩ : ∃ A : Ty, A = (bif t.has then canonF t.ann else t.ann) := ⟨_, rfl⟩
  refine c_enter (n := 32) Tryz.func16 rfl rfl rfl ?_
  refine q0 ?_
  refine lC (o_box rfl rfl rfl ?_)
  intro b1 w1 hb_b1 ew1 h1
  replace h1 : Box _ b1 28 [.int .u8 t.op, .string t.name, .string t.arg, .int .i64 t.n, .bool t.has, .int .u8 t.ann.op, .string t.ann.name, .int .i64 t.ann.n, akv, kv] := h1
  replace h1 := h1.at (nM_of hlow hb_b1)
  replace hE := ew1.bl hE hB
  replace ht := Rep.ext ht ew1
  replace ha := Rep.ext ha ew1
  replace hk := hk.ext ew1
  replace hlow := hlow.ext ew1
  replace hB := ew1.z hB
  refine lC (o_new tK rfl rfl rfl ?_)
  intro b2 w2 qb2 ew2 hb2
  have sw2 := Stp.add ew2 hlow hB (Nat.le_of_eq qb2.symm) hb2.lt
  have h2 : MB w.heap.size (Rw.Add M b2) w2 b2 28 [.int .u8 0, .string ⟨#[]⟩, .string ⟨#[]⟩, .int .i64 0, .bool false, .int .u8 0, .string ⟨#[]⟩, .int .i64 0, .slice none 0 0, .slice none 0 0] := MB.mk' hb2 qb2 hB
  replace hE := hE.trans sw2.below
  replace ht := Rep.stp ht sw2
  replace ha := Rep.stp ha sw2
  replace hk := hk.stp sw2
  replace h1 := h1.stp sw2
  replace hsub := sw2.sb hsub
  replace hlow := sw2.low
  replace hB := sw2.z hB
  refine q1 (q0 ?_)
  refine lC (o_lds tK (fun j v hv => h1.cell j v hv) rfl rfl rfl rfl rfl rfl ?_)
  refine lC (o_new tK rfl rfl rfl ?_)
  intro b3 w3 qb3 ew3 hb3
  have ne_h2_h3 : b2 ≠ b3 := by have := h2.lt; omega
  have sw3 := Stp.add ew3 hlow hB (Nat.le_of_eq qb3.symm) hb3.lt
  have h3 : MB w.heap.size (Rw.Add (Rw.Add M b2) b3) w3 b3 28 [.int .u8 0, .string ⟨#[]⟩, .string ⟨#[]⟩, .int .i64 0, .bool false, .int .u8 0, .string ⟨#[]⟩, .int .i64 0, .slice none 0 0, .slice none 0 0] := MB.mk' hb3 qb3 hB
  replace h2 := h2.stp sw3 (ew3.block b2 h2.lt)
  replace hE := hE.trans sw3.below
  replace ht := Rep.stp ht sw3
  replace ha := Rep.stp ha sw3
  replace hk := hk.stp sw3
  replace h1 := h1.stp sw3
  replace hsub := sw3.sb hsub
  replace hlow := sw3.low
  replace hB := sw3.z hB
  refine lC (o_st tK h3.box rfl rfl rfl rfl (Rep.one ht) rfl rfl ?_)
  intro w4 hw4 qw4 bew4
  have uw4 : UpdB _ _ _ := ⟨qw4, bew4⟩
  have sw4 := uw4.stp h3.inM hlow h3.ge
  have frw4 := qw4.2
  replace h2 := h2.stp sw4 (frw4 b2 h2.lt ne_h2_h3)
  replace hE := hE.trans sw4.below
  replace ht := Rep.stp ht sw4
  replace ha := Rep.stp ha sw4
  replace hk := hk.stp sw4
  replace h1 := h1.stp sw4
  replace hsub := sw4.sb hsub
  replace hlow := sw4.low
  replace hB := sw4.z hB
  replace h3 : MB w.heap.size _ w4 b3 _ [.int .u8 t.op, .string t.name, .string t.arg, .int .i64 t.n, .bool t.has, .int .u8 t.ann.op, .string t.ann.name, .int .i64 t.ann.n, akv, kv] := ⟨hw4, h3.inM, h3.ge⟩
  refine q1 (q0 (l_p 1 tK rfl ?_))
  refine lC (o_st tK h3.box rfl rfl rfl rfl (by intro u hu; simp [Value.cells] at hu; subst hu; rfl) rfl rfl ?_)
  intro w5 hw5 qw5 bew5
  have uw5 : UpdB _ _ _ := ⟨qw5, bew5⟩
  have sw5 := uw5.stp h3.inM hlow h3.ge
  have frw5 := qw5.2
  replace h2 := h2.stp sw5 (frw5 b2 h2.lt ne_h2_h3)
  replace hE := hE.trans sw5.below
  replace ht := Rep.stp ht sw5
  replace ha := Rep.stp ha sw5
  replace hk := hk.stp sw5
  replace h1 := h1.stp sw5
  replace hsub := sw5.sb hsub
  replace hlow := sw5.low
  replace hB := sw5.z hB
  replace h3 : MB w.heap.size _ w5 b3 _ [.int .u8 t.op, .string t.name, .string t.arg, .int .i64 t.n, .bool t.has, .int .u8 t.ann.op, .string t.ann.name, .int .i64 t.ann.n, akv, .slice none 0 0] := ⟨hw5, h3.inM, h3.ge⟩
  refine q1 ?_
  refine c_cut (X := Value) (fun akv2 => [(1, .pointer (some ⟨b1, 0, none⟩)), (2, .pointer (some ⟨b2, 0, none⟩)), (3, .pointer (some ⟨b3, 0, none⟩))]) (fun akv2 w' => MB w.heap.size (Rw.Add (Rw.Add M b2) b3) w' b2 28 [.int .u8 0, .string ⟨#[]⟩, .string ⟨#[]⟩, .int .i64 0, .bool false, .int .u8 0, .string ⟨#[]⟩, .int .i64 0, .slice none 0 0, .slice none 0 0] ∧ MB w.heap.size (Rw.Add (Rw.Add M b2) b3) w' b3 28 [.int .u8 t.op, .string t.name, .string t.arg, .int .i64 t.n, .bool t.has, .int .u8 A.op, .string A.name, .int .i64 A.n, akv2, .slice none 0 0] ∧ At (Rw.Add (Rw.Add M b2) b3) w' b1 0 [.int .u8 t.op, .string t.name, .string t.arg, .int .i64 t.n, .bool t.has, .int .u8 t.ann.op, .string t.ann.name, .int .i64 t.ann.n, akv, kv] ∧ Sl (Rw.Add (Rw.Add M b2) b3) w' kv t.kids ∧ Rep.R (Rw.Add (Rw.Add M b2) b3) w' (.agg #[.int .u8 A.op, .string A.name, .int .i64 A.n, akv2]) A ∧ Low (Rw.Add (Rw.Add M b2) b3) w' ∧ (∀ b, M b → (Rw.Add (Rw.Add M b2) b3) b) ∧ Below w.heap.size w w' ∧ w.heap.size ≤ w'.heap.size) ?_ ?_
  · refine q0 (l_p 1 tK rfl ?_)
    refine lC (o_ld tK (h1.cell 4 _ rfl) rfl rfl rfl rfl rfl ?_)
    refine q1 ?_
    refine c_if _ rfl (fun c1 => ?_) (fun c1 => ?_)
    · refine c_reg (l_p 1 tK rfl ?_)
      refine lC (o_lds tK (fun j v hv => (h1).mid 5 (sub := [.int .u8 t.ann.op, .string t.ann.name, .int .i64 t.ann.n, akv]) rfl j v hv) rfl rfl rfl rfl rfl rfl ?_)
      obtain ⟨cs9, hcs9⟩ := shape_either (t := t.ann) (by rw [(hnote.1 c1).1]; rfl)
      refine lC (o_call fo32 rfl rfl rfl (refCanon_all _ t.ann _ _ _ _ (Nat.le_refl _) hcs9 ha hlow hzs) ?_)
      rintro vhc w6 ⟨hc, ew6⟩
      replace h2 := h2.ext hlow hB ew6
      replace h3 := h3.ext hlow hB ew6
      replace hE := ew6.bl hE hB
      replace ht := Rep.ext ht ew6
      replace ha := Rep.ext ha ew6
      replace hk := hk.ext ew6
      replace h1 := h1.ext ew6
      replace hlow := hlow.ext ew6
      replace hB := ew6.z hB
      obtain ⟨kvc, rfl, opc, nmc, n64c, hkc⟩ := ty_open hc
      refine l_p 1 tK rfl ?_
      refine lC (o_st tK h3.box rfl rfl rfl rfl (Rep.one hc) rfl rfl ?_)
      intro w7 hw7 qw7 bew7
      have uw7 : UpdB _ _ _ := ⟨qw7, bew7⟩
      have sw7 := uw7.stp h3.inM hlow h3.ge
      have frw7 := qw7.2
      replace h2 := h2.stp sw7 (frw7 b2 h2.lt ne_h2_h3)
      replace hE := hE.trans sw7.below
      replace ht := Rep.stp ht sw7
      replace ha := Rep.stp ha sw7
      replace hk := hk.stp sw7
      replace h1 := h1.stp sw7
      replace hc := Rep.stp hc sw7
      replace hsub := sw7.sb hsub
      replace hlow := sw7.low
      replace hB := sw7.z hB
      replace h3 : MB w.heap.size _ w7 b3 _ [.int .u8 t.op, .string t.name, .string t.arg, .int .i64 t.n, .bool t.has, .int .u8 (canonF t.ann).op, .string (canonF t.ann).name, .int .i64 (canonF t.ann).n, kvc, .slice none 0 0] := ⟨hw7, h3.inM, h3.ge⟩
      refine l_nil ?_
      obtain rfl : A = canonF t.ann := by rw [hA, c1, cond_true]
      have hann := hc
      exact x_cut (kvc) (s3 rfl rfl rfl) ⟨h2, h3, h1, hk, hann, hlow, hsub, hE, hB⟩
    refine c_skip ?_
    obtain rfl : A = t.ann := by rw [hA, show t.has = false by simpa using c1, cond_false]
    have hann := ha
    exact x_cut (akv) (s3 rfl rfl rfl) ⟨h2, h3, h1, hk, hann, hlow, hsub, hE, hB⟩
  clear h2 h3 h1 hk ht ha hlow hsub hE hB
  rintro akv2 w80 ⟨h2, h3, h1, hk, hann, hlow, hsub, hE, hB⟩
  refine c_seq (q0 (l_p 1 tK rfl (q1 (c_blk ?_))))
  have d_ho_h2 : ∀ x, (.slice none 0 0 : Value).ownBlock = some x → x ≠ b2 := fun x hx => by simp [Value.ownBlock] at hx
  have d_ho_h3 : ∀ x, (.slice none 0 0 : Value).ownBlock = some x → x ≠ b3 := fun x hx => by simp [Value.ownBlock] at hx
  refine c_loop3 (X := Nat) (Y := Value) (Z := Nat → Prop) (fun i v M1 => [(1, .pointer (some ⟨b1, 0, none⟩)), (2, .pointer (some ⟨b2, 0, none⟩)), (3, .pointer (some ⟨b3, 0, none⟩)), (4, .int .i64 (i : Nat))]) (fun i v M1 w' => i ≤ t.kids.length ∧ OwnSl 28 w.heap.size M1 w' v ((t.kids.take i).map canonT) ∧ MB w.heap.size M1 w' b2 28 [.int .u8 0, .string ⟨#[]⟩, .string ⟨#[]⟩, .int .i64 0, .bool false, .int .u8 0, .string ⟨#[]⟩, .int .i64 0, .slice none 0 0, .slice none 0 0] ∧ MB w.heap.size M1 w' b3 28 [.int .u8 t.op, .string t.name, .string t.arg, .int .i64 t.n, .bool t.has, .int .u8 A.op, .string A.name, .int .i64 A.n, akv2, v] ∧ At M1 w' b1 0 [.int .u8 t.op, .string t.name, .string t.arg, .int .i64 t.n, .bool t.has, .int .u8 t.ann.op, .string t.ann.name, .int .i64 t.ann.n, akv, kv] ∧ (∀ x, (v : Value).ownBlock = some x → x ≠ b2) ∧ (∀ x, (v : Value).ownBlock = some x → x ≠ b3) ∧ Sl M1 w' kv t.kids ∧ Rep.R M1 w' (.agg #[.int .u8 A.op, .string A.name, .int .i64 A.n, akv2]) A ∧ Low M1 w' ∧ (∀ b, M b → M1 b) ∧ Below w.heap.size w w' ∧ w.heap.size ≤ w'.heap.size) (fun i v M1 => t.kids.length - i) (0) (.slice none 0 0) ((Rw.Add (Rw.Add M b2) b3)) (s4 rfl rfl rfl rfl) ?_ ?_
  · exact ⟨Nat.zero_le _, own_nil, h2, h3, h1, d_ho_h2, d_ho_h3, hk, hann, hlow, hsub, hE, hB⟩
  clear h2 h3 h1 hk hann hlow hsub hE hB d_ho_h2 d_ho_h3
  rintro i v M1 w8 ⟨hi, ho, h2, h3, h1, d_ho_h2, d_ho_h3, hk, hann, hlow, hsub, hE, hB⟩
  refine c_seq (q0 (l_p 2 tK rfl ?_))
  refine lC (o_ld tK (h1.cell 9 _ rfl) rfl rfl rfl rfl rfl ?_)
  refine lC (o_len tK hk rfl rfl rfl rfl rfl ?_)
  refine l_p 1 tK rfl (q1 ?_)
  refine c_ifP _ rfl (fun c2 => ?_) (fun c2 => ?_)
  · refine c_skip (x_seq (c_seq (c_blk ?_)))
    refine a_beg Ext rfl ?_
    intro w9 ew9
    replace ho := ho.ext hlow hB ew9
    replace h2 := h2.ext hlow hB ew9
    replace h3 := h3.ext hlow hB ew9
    replace hE := ew9.bl hE hB
    replace h1 := h1.ext ew9
    replace hk := hk.ext ew9
    replace hann := Rep.ext hann ew9
    replace hlow := hlow.ext ew9
    replace hB := ew9.z hB
    have hS : Ext w9 w9 := ext_refl _
    have D_h2 := h2.box
    have D_h3 := h3.box
    have D_h1 := h1
    have D_hk := hk
    refine a_p 0 tK rfl rfl rfl rfl (by kernel_rfl) (fun _ _ _ h => h) hS ?_
    refine a_ld 1 tK (fun _ hs => (D_h3.ext hs).cell 9 _ rfl) rfl rfl rfl rfl rfl rfl (by kernel_rfl) (fun _ _ _ h => h) hS ?_
    refine a_p 2 tK rfl rfl rfl rfl (by kernel_rfl) (fun _ _ _ h => h) hS ?_
    refine a_ld 3 tK (fun _ hs => (D_h1.ext hs).cell 9 _ rfl) rfl rfl rfl rfl rfl rfl (by kernel_rfl) (fun _ _ _ h => h) hS ?_
    refine a_p 4 tK rfl rfl rfl rfl (by kernel_rfl) (fun _ _ _ h => h) hS ?_
    have hik : i < t.kids.length := by omega
    have hp1 := nsz_get hik
    obtain ⟨bk, hbk⟩ := hkx _ (List.getElem_mem hik)
    refine a_ixS 5 tK D_hk (List.getElem?_eq_getElem hik) rfl rfl rfl rfl rfl rfl rfl rfl rfl rfl (by kernel_rfl) (fun _ _ _ _ h => h) hS ?_
    intro ebx eox eux hyx hatx
    obtain ⟨akvx, kvx, rfl, opx, nmx, agx, n64x, hax, hkx⟩ := tm_open hyx
    replace hatx : At M1 w9 ebx eox [.int .u8 t.kids[i].op, .string t.kids[i].name, .string t.kids[i].arg, .int .i64 t.kids[i].n, .bool t.kids[i].has, .int .u8 t.kids[i].ann.op, .string t.kids[i].ann.name, .int .i64 t.kids[i].ann.n, akvx, kvx] := hatx
    refine a_lds 6 tK (fun _ hs j v hv => (hatx.ext hs).cell j v hv) rfl rfl rfl rfl rfl rfl rfl (by kernel_rfl) (fun _ _ _ h => h) hS ?_
    refine a_one 7 rfl (by kernel_rfl) (o_call fo16 rfl rfl rfl (ih _ (List.getElem_mem hik) bk _ _ _ hbk hyx hlow (hz.kid (List.getElem_mem hik)) (by omega)) ?_)
    rintro vhq w10 ⟨hq, ew10⟩
    replace hS := hS.then ew10
    replace ho := ho.ext hlow hB ew10
    replace h2 := h2.ext hlow hB ew10
    replace h3 := h3.ext hlow hB ew10
    replace hE := ew10.bl hE hB
    replace h1 := h1.ext ew10
    replace hk := hk.ext ew10
    replace hann := Rep.ext hann ew10
    replace hyx := Rep.ext hyx ew10
    replace hax := Rep.ext hax ew10
    replace hkx := hkx.ext ew10
    replace hatx := hatx.ext ew10
    replace hlow := hlow.ext ew10
    replace hB := ew10.z hB
    refine ⟨hS, ?_⟩
    refine a_one 8 rfl (by kernel_rfl) (o_bs tK rfl rfl rfl rfl rfl rfl rfl (sz1 (Rep.size hq)) rfl rfl rfl ?_)
    intro bw11 w11 qbw11 ew11 hbw11
    have nbw11 := nM_of hlow qbw11
    replace hS := hS.then ew11
    replace ho := ho.ext hlow hB ew11
    replace h2 := h2.ext hlow hB ew11
    replace h3 := h3.ext hlow hB ew11
    replace hE := ew11.bl hE hB
    replace h1 := h1.ext ew11
    replace hk := hk.ext ew11
    replace hann := Rep.ext hann ew11
    replace hyx := Rep.ext hyx ew11
    replace hax := Rep.ext hax ew11
    replace hkx := hkx.ext ew11
    replace hatx := hatx.ext ew11
    replace hq := Rep.ext hq ew11
    replace hlow := hlow.ext ew11
    replace hB := ew11.z hB
    refine ⟨hS, ?_⟩
    refine a_barS Ext 9 rfl (by kernel_rfl) (by kernel_rfl) (o_app1 tK ho hbw11 nbw11 hq hlow hB rfl rfl rfl rfl rfl rfl rfl (by simp; omega) (by show (_ + _) * 136 ≤ _; simp; omega) rfl rfl ?_)
    intro vw12 w12 Mw12 hw12 sw12 frw12 blw12
    have zd_ho_h2 := d_ho_h2
    replace d_ho_h2 : ∀ x, (vw12 : Value).ownBlock = some x → x ≠ b2 := fun x hx => (blw12 x hx).elim (d_ho_h2 x) (fun h e => by have := h2.lt; omega)
    have zd_ho_h3 := d_ho_h3
    replace d_ho_h3 : ∀ x, (vw12 : Value).ownBlock = some x → x ≠ b3 := fun x hx => (blw12 x hx).elim (d_ho_h3 x) (fun h e => by have := h3.lt; omega)
    replace h2 := h2.stp sw12 (frw12 b2 h2.lt (fun e => zd_ho_h2 _ e.symm rfl))
    replace h3 := h3.stp sw12 (frw12 b3 h3.lt (fun e => zd_ho_h3 _ e.symm rfl))
    replace hE := hE.trans sw12.below
    replace h1 := h1.stp sw12
    replace hk := hk.stp sw12
    replace hann := Rep.stp hann sw12
    replace hyx := Rep.stp hyx sw12
    replace hax := Rep.stp hax sw12
    replace hkx := hkx.stp sw12
    replace hatx := hatx.stp sw12
    replace hq := Rep.stp hq sw12
    replace hsub := sw12.sb hsub
    replace hlow := sw12.low
    replace hB := sw12.z hB
    replace hS : Ext w12 w12 := ext_refl _
    replace ho := hw12
    clear hw12
    have D_h2 := h2.box
    have D_h3 := h3.box
    have D_h1 := h1
    have D_hk := hk
    have D_hkx := hkx
    have D_hatx := hatx
    refine a_p 10 tK rfl rfl rfl rfl (by kernel_rfl) (fun _ _ _ h => h) hS ?_
    obtain ⟨av6, cv6, rfl, _⟩ := ho.val
    refine a_barS Ext 11 rfl (by kernel_rfl) (by kernel_rfl) (o_st tK h3.box rfl rfl rfl rfl (by intro u hu; simp [Value.cells] at hu; subst hu; rfl) rfl rfl ?_)
    intro w13 hw13 qw13 bew13
    have uw13 : UpdB _ _ _ := ⟨qw13, bew13⟩
    have sw13 := uw13.stp h3.inM hlow h3.ge
    have frw13 := qw13.2
    replace ho := ho.stp sw13 (fun x hx => frw13 x (ho.lt x hx).2 (d_ho_h3 x hx))
    replace h2 := h2.stp sw13 (frw13 b2 h2.lt ne_h2_h3)
    replace hE := hE.trans sw13.below
    replace h1 := h1.stp sw13
    replace hk := hk.stp sw13
    replace hann := Rep.stp hann sw13
    replace hyx := Rep.stp hyx sw13
    replace hax := Rep.stp hax sw13
    replace hkx := hkx.stp sw13
    replace hatx := hatx.stp sw13
    replace hq := Rep.stp hq sw13
    replace hsub := sw13.sb hsub
    replace hlow := sw13.low
    replace hB := sw13.z hB
    replace hS : Ext w13 w13 := ext_refl _
    replace h3 : MB w.heap.size _ w13 b3 _ [.int .u8 t.op, .string t.name, .string t.arg, .int .i64 t.n, .bool t.has, .int .u8 A.op, .string A.name, .int .i64 A.n, akv2, (.slice av6 ((t.kids.take i).map canonT ++ [canonT t.kids[i]]).length cv6)] := ⟨hw13, h3.inM, h3.ge⟩
    have D_h2 := h2.box
    have D_h3 := h3.box
    have D_h1 := h1
    have D_hk := hk
    have D_hkx := hkx
    have D_hatx := hatx
    refine a_end (by kernel_rfl) ?_
    refine x_blk (x_seq (c_reg (l_p 1 tK rfl ?_)))
    refine lC (o_ai rfl rfl rfl (by omega) rfl rfl ?_)
    refine l_p 1 tK rfl (l_nil ?_)
    exact x_round3 (i + 1) ((.slice av6 ((t.kids.take i).map canonT ++ [canonT t.kids[i]]).length cv6)) (Mw12) (s4 rfl rfl rfl (get_num rfl (by omega))) ⟨by omega, by rw [List.take_succ_eq_append_getElem hik, List.map_append]; exact ho, h2, h3, h1, d_ho_h2, d_ho_h3, hk, hann, hlow, hsub, hE, hB⟩ (by omega)
  refine c_exit (x_seqE (x_seqE (x_blkE (x_seq (q0 ?_)))))
  refine lC (o_lds tK (fun j v hv => h3.cell j v hv) rfl rfl rfl rfl rfl rfl ?_)
  obtain rfl : i = t.kids.length := by omega
  rw [List.take_of_length_le (Nat.le_refl _)] at ho
  obtain ⟨av, cv, rfl, hcv⟩ := ho.val
  have hml : (t.kids.map canonT).length = t.kids.length := List.length_map _
  refine lC (o_st tK h2.box rfl rfl rfl rfl (by intro u hu; simp [Value.cells] at hu; have := Rep.one hann; simp [Value.cells] at this; rcases hu with rfl | rfl | rfl | rfl | rfl | rfl | rfl | rfl | rfl | rfl <;> first | rfl | exact this.2.2.2) rfl rfl ?_)
  intro w14 hw14 qw14 bew14
  have uw14 : UpdB _ _ _ := ⟨qw14, bew14⟩
  have sw14 := uw14.stp h2.inM hlow h2.ge
  have frw14 := qw14.2
  replace ho := ho.stp sw14 (fun x hx => frw14 x (ho.lt x hx).2 (d_ho_h2 x hx))
  replace h3 := h3.stp sw14 (frw14 b3 h3.lt ne_h2_h3.symm)
  replace hE := hE.trans sw14.below
  replace h1 := h1.stp sw14
  replace hk := hk.stp sw14
  replace hann := Rep.stp hann sw14
  replace hsub := sw14.sb hsub
  replace hlow := sw14.low
  replace hB := sw14.z hB
  replace h2 : MB w.heap.size _ w14 b2 _ [.int .u8 t.op, .string t.name, .string t.arg, .int .i64 t.n, .bool t.has, .int .u8 A.op, .string A.name, .int .i64 A.n, akv2, .slice av (t.kids.map canonT).length cv] := ⟨hw14, h2.inM, h2.ge⟩
  refine q1 (c_ret ?_)
  refine x_ret1s tK (fun j v hv => h2.cell j v hv) rfl rfl rfl rfl rfl ?_
  have hfin := tm_mk (has := t.has) op nm ag n64 (Rep.wk hann (fun b _ h => hsub b h)) (ho.sl (by omega) hlow0 hsub)
  have hct : Tm.mk t.op t.name t.arg t.n t.has A (t.kids.map canonT) = canonT t := by rw [canonT_eq, hA]
  rw [hct] at hfin
  exact ⟨hfin, hE⟩
theorem treeSame_spec (t s : Tm) (M : Nat → Prop) (w : World) (v u : Value) (ht : Rep.R M w v t) (hs : Rep.R M w u s) (hzt : tmsz t ≤ 2000000) (hzt2 : tmsz s ≤ 2000000) (hlow : Low M w) :
    Calls Tryz.prog 4 #[v, u] w (Ret fun r w' => r = .bool true ∧ Ext w w') := by
  have hE : Below w.heap.size w w := Below.refl _ _
  have hB : w.heap.size ≤ w.heap.size := Nat.le_refl _
  have hz := annS_tmsz hzt
  have hns := Nat.le_trans (nsz_tmsz t) hzt
  have hazt := Nat.le_trans (asz_tmsz t) hzt
  have hzs := annS_tmsz hzt2
  have hnss := Nat.le_trans (nsz_tmsz s) hzt2
  have hass := Nat.le_trans (asz_tmsz s) hzt2
  obtain ⟨akv, kv, rfl, op, nm, ag, n64, ha, hk⟩ := tm_open ht
  obtain ⟨akvs, kvs, rfl, ops, nms, ags, n64s, has, hks⟩ := tm_open hs
  refine c_enter (n := 32) Tryz.func4 rfl rfl rfl ?_
  refine q0 ?_
  refine lC (o_box rfl rfl rfl ?_)
  intro b2 w1 hb_b2 ew1 h2
  replace h2 : Box _ b2 28 [.int .u8 t.op, .string t.name, .string t.arg, .int .i64 t.n, .bool t.has, .int .u8 t.ann.op, .string t.ann.name, .int .i64 t.ann.n, akv, kv] := h2
  replace h2 := h2.at (nM_of hlow hb_b2)
  replace hE := ew1.bl hE hB
  replace ht := Rep.ext ht ew1
  replace ha := Rep.ext ha ew1
  replace hk := hk.ext ew1
  replace hs := Rep.ext hs ew1
  replace has := Rep.ext has ew1
  replace hks := hks.ext ew1
  replace hlow := hlow.ext ew1
  replace hB := ew1.z hB
  refine lC (o_box rfl rfl rfl ?_)
  intro b3 w2 hb_b3 ew2 h3
  replace h3 : Box _ b3 28 [.int .u8 s.op, .string s.name, .string s.arg, .int .i64 s.n, .bool s.has, .int .u8 s.ann.op, .string s.ann.name, .int .i64 s.ann.n, akvs, kvs] := h3
  replace h3 := h3.at (nM_of hlow hb_b3)
  replace hE := ew2.bl hE hB
  replace ht := Rep.ext ht ew2
  replace ha := Rep.ext ha ew2
  replace hk := hk.ext ew2
  replace hs := Rep.ext hs ew2
  replace has := Rep.ext has ew2
  replace hks := hks.ext ew2
  replace h2 := h2.ext ew2
  replace hlow := hlow.ext ew2
  replace hB := ew2.z hB
  refine l_p 1 tK rfl (q1 (c_seq (q0 ?_)))
  refine lC (o_call fo6 rfl rfl rfl (alive5_spec M _ hlow) ?_)
  rintro _ w3 ⟨rfl, ew3⟩
  replace hE := ew3.bl hE hB
  replace ht := Rep.ext ht ew3
  replace ha := Rep.ext ha ew3
  replace hk := hk.ext ew3
  replace hs := Rep.ext hs ew3
  replace has := Rep.ext has ew3
  replace hks := hks.ext ew3
  replace h2 := h2.ext ew3
  replace h3 := h3.ext ew3
  replace hlow := hlow.ext ew3
  replace hB := ew3.z hB
  refine l_p 1 tK rfl (q1 ?_)
  refine c_ifB _ rfl (fun c1 => ?_) (fun c1 => ?_)
  · first | (exfalso; omega) | exact absurd c1 (by simp)
  refine c_skip (x_seq (c_seq (q0 ?_)))
  refine lC (o_lds tK (fun j v hv => h2.cell j v hv) rfl rfl rfl rfl rfl rfl ?_)
  refine lC (o_call fo7 rfl rfl rfl (many5_spec t M _ _ ht hlow hz hns hazt) ?_)
  rintro _ w4 ⟨rfl, ew4⟩
  replace hE := ew4.bl hE hB
  replace ht := Rep.ext ht ew4
  replace ha := Rep.ext ha ew4
  replace hk := hk.ext ew4
  replace hs := Rep.ext hs ew4
  replace has := Rep.ext has ew4
  replace hks := hks.ext ew4
  replace h2 := h2.ext ew4
  replace h3 := h3.ext ew4
  replace hlow := hlow.ext ew4
  replace hB := ew4.z hB
  refine l_p 1 tK rfl ?_
  refine l_split 10 _ rfl (fun c2 => ?_) (fun c2 => ?_)
  · refine l_p 3 tK rfl (q1 (c_ifT rfl (q0 (l_p 1 tK rfl (q1 (c_ret (x_seqR (x_ret1 rfl rfl ?_))))))))
    exact ⟨rfl, hE⟩
  refine lC (o_lds tK (fun j v hv => h3.cell j v hv) rfl rfl rfl rfl rfl rfl ?_)
  refine lC (o_call fo7 rfl rfl rfl (many5_spec s M _ _ hs hlow hzs hnss hass) ?_)
  rintro _ w5 ⟨rfl, ew5⟩
  replace hE := ew5.bl hE hB
  replace ht := Rep.ext ht ew5
  replace ha := Rep.ext ha ew5
  replace hk := hk.ext ew5
  replace hs := Rep.ext hs ew5
  replace has := Rep.ext has ew5
  replace hks := hks.ext ew5
  replace h2 := h2.ext ew5
  replace h3 := h3.ext ew5
  replace hlow := hlow.ext ew5
  replace hB := ew5.z hB
  refine l_p 1 tK rfl (q1 ?_)
  refine c_if _ rfl (fun c3 => ?_) (fun c3 => ?_)
  · refine q0 (l_p 1 tK rfl (q1 (c_ret (x_seqR (x_ret1 rfl rfl ?_)))))
    exact ⟨rfl, hE⟩
  refine c_skip (x_seq (c_seq ?_))
  refine a_beg Ext rfl ?_
  intro w6 ew6
  replace hE := ew6.bl hE hB
  replace ht := Rep.ext ht ew6
  replace ha := Rep.ext ha ew6
  replace hk := hk.ext ew6
  replace hs := Rep.ext hs ew6
  replace has := Rep.ext has ew6
  replace hks := hks.ext ew6
  replace h2 := h2.ext ew6
  replace h3 := h3.ext ew6
  replace hlow := hlow.ext ew6
  replace hB := ew6.z hB
  have hS : Ext w6 w6 := ext_refl _
  have D_hk := hk
  have D_hks := hks
  have D_h2 := h2
  have D_h3 := h3
  refine a_lds 0 tK (fun _ hs j v hv => (D_h2.ext hs).cell j v hv) rfl rfl rfl rfl rfl rfl rfl (by kernel_rfl) (fun _ _ _ h => h) hS ?_
  refine a_bar 1 rfl (by kernel_rfl) (by kernel_rfl) (o_call fo10 rfl rfl rfl (refTR_spec t false M _ _ ht hlow hz) ?_)
  rintro _ w7 ⟨rfl, ew7⟩
  replace hS := hS.then ew7
  replace hE := ew7.bl hE hB
  replace ht := Rep.ext ht ew7
  replace ha := Rep.ext ha ew7
  replace hk := hk.ext ew7
  replace hs := Rep.ext hs ew7
  replace has := Rep.ext has ew7
  replace hks := hks.ext ew7
  replace h2 := h2.ext ew7
  replace h3 := h3.ext ew7
  replace hlow := hlow.ext ew7
  replace hB := ew7.z hB
  refine a_p 2 tK rfl rfl rfl rfl (by kernel_rfl) (fun _ _ _ h => h) hS ?_
  refine a_split 16 _ rfl (fun c4 => ?_) (fun c4 => ?_)
  · refine a_lds 3 tK (fun _ hs j v hv => (D_h3.ext hs).cell j v hv) rfl rfl rfl rfl rfl rfl rfl (by kernel_rfl) (fun _ _ _ h => h) hS ?_
    refine a_bar 4 rfl (by kernel_rfl) (by kernel_rfl) (o_call fo10 rfl rfl rfl (refTR_spec s false M _ _ hs hlow hzs) ?_)
    rintro _ w8 ⟨rfl, ew8⟩
    replace hS := hS.then ew8
    replace hE := ew8.bl hE hB
    replace ht := Rep.ext ht ew8
    replace ha := Rep.ext ha ew8
    replace hk := hk.ext ew8
    replace hs := Rep.ext hs ew8
    replace has := Rep.ext has ew8
    replace hks := hks.ext ew8
    replace h2 := h2.ext ew8
    replace h3 := h3.ext ew8
    replace hlow := hlow.ext ew8
    replace hB := ew8.z hB
    refine a_p 5 tK rfl rfl rfl rfl (by kernel_rfl) (fun _ _ _ h => h) hS ?_
    refine a_p 6 tK rfl rfl rfl rfl (by kernel_rfl) (fun _ _ _ h => h) hS ?_
    refine a_split 20 _ rfl (fun c5 => ?_) (fun c5 => ?_)
    · refine a_lds 7 tK (fun _ hs j v hv => (D_h2.ext hs).cell j v hv) rfl rfl rfl rfl rfl rfl rfl (by kernel_rfl) (fun _ _ _ h => h) hS ?_
      refine a_lds 9 tK (fun _ hs j v hv => (D_h3.ext hs).cell j v hv) rfl rfl rfl rfl rfl rfl rfl (by kernel_rfl) (fun _ _ _ h => h) hS ?_
      refine a_one 8 rfl (by kernel_rfl) (o_call fo16 rfl rfl rfl (refCanonM_spec t false _ _ _ c4 ht hlow hz hns) ?_)
      rintro vhct w9 ⟨hct, ew9⟩
      replace hS := hS.then ew9
      replace hE := ew9.bl hE hB
      replace ht := Rep.ext ht ew9
      replace ha := Rep.ext ha ew9
      replace hk := hk.ext ew9
      replace hs := Rep.ext hs ew9
      replace has := Rep.ext has ew9
      replace hks := hks.ext ew9
      replace h2 := h2.ext ew9
      replace h3 := h3.ext ew9
      replace hlow := hlow.ext ew9
      replace hB := ew9.z hB
      refine ⟨hS, ?_⟩
      refine a_bar 10 rfl (by kernel_rfl) (by kernel_rfl) (o_call fo16 rfl rfl rfl (refCanonM_spec s false _ _ _ c5 hs hlow hzs hnss) ?_)
      rintro vhcs w10 ⟨hcs, ew10⟩
      replace hS := hS.then ew10
      replace hE := ew10.bl hE hB
      replace ht := Rep.ext ht ew10
      replace ha := Rep.ext ha ew10
      replace hk := hk.ext ew10
      replace hs := Rep.ext hs ew10
      replace has := Rep.ext has ew10
      replace hks := hks.ext ew10
      replace h2 := h2.ext ew10
      replace h3 := h3.ext ew10
      replace hct := Rep.ext hct ew10
      replace hlow := hlow.ext ew10
      replace hB := ew10.z hB
      refine a_bar 11 rfl (by kernel_rfl) (by kernel_rfl) (o_call fo15 rfl rfl rfl (alikeM_spec _ _ M _ _ _ hct hcs hlow) ?_)
      rintro _ w11 ⟨rfl, ew11⟩
      replace hS := hS.then ew11
      replace hE := ew11.bl hE hB
      replace ht := Rep.ext ht ew11
      replace ha := Rep.ext ha ew11
      replace hk := hk.ext ew11
      replace hs := Rep.ext hs ew11
      replace has := Rep.ext has ew11
      replace hks := hks.ext ew11
      replace h2 := h2.ext ew11
      replace h3 := h3.ext ew11
      replace hct := Rep.ext hct ew11
      replace hcs := Rep.ext hcs ew11
      replace hlow := hlow.ext ew11
      replace hB := ew11.z hB
      refine a_p 12 tK rfl rfl rfl rfl (by kernel_rfl) (fun _ _ _ h => h) hS ?_
      refine a_p 13 tK rfl rfl rfl rfl (by kernel_rfl) (fun _ _ _ h => h) hS ?_
      refine a_end (by kernel_rfl) ?_
      refine x_seq (q0 ?_)
      refine lC (o_lds tK (fun j v hv => h2.cell j v hv) rfl rfl rfl rfl rfl rfl ?_)
      refine lC (o_lds tK (fun j v hv => h3.cell j v hv) rfl rfl rfl rfl rfl rfl ?_)
      refine lC (o_call fo17 rfl rfl rfl (sameT_spec t s M _ _ _ ht hs hlow hz hzs) ?_)
      rintro _ w12 ⟨rfl, ew12⟩
      replace hE := ew12.bl hE hB
      replace ht := Rep.ext ht ew12
      replace ha := Rep.ext ha ew12
      replace hk := hk.ext ew12
      replace hs := Rep.ext hs ew12
      replace has := Rep.ext has ew12
      replace hks := hks.ext ew12
      replace h2 := h2.ext ew12
      replace h3 := h3.ext ew12
      replace hct := Rep.ext hct ew12
      replace hcs := Rep.ext hcs ew12
      replace hlow := hlow.ext ew12
      replace hB := ew12.z hB
      refine l_p 1 tK rfl ?_
      refine lC (o_beq tK rfl rfl rfl rfl rfl rfl ?_)
      refine l_p 1 tK rfl (q1 (c_ret (x_ret1 rfl rfl ?_)))
      exact ⟨by simp [c4, c5], hE⟩
    refine a_skip 7 rfl rfl rfl (by kernel_rfl) (fun _ _ _ h => h) hS ?_
    refine a_skip 8 rfl rfl rfl (by kernel_rfl) (fun _ _ _ h => h) hS ?_
    refine a_skip 9 rfl rfl rfl (by kernel_rfl) (fun _ _ _ h => h) hS ?_
    refine a_skip 10 rfl rfl rfl (by kernel_rfl) (fun _ _ _ h => h) hS ?_
    refine a_skip 11 rfl rfl rfl (by kernel_rfl) (fun _ _ _ h => h) hS ?_
    refine a_p 12 tK rfl rfl rfl rfl (by kernel_rfl) (fun _ _ _ h => h) hS ?_
    refine a_p 13 tK rfl rfl rfl rfl (by kernel_rfl) (fun _ _ _ h => h) hS ?_
    refine a_end (by kernel_rfl) ?_
    refine x_seq (q0 ?_)
    refine lC (o_lds tK (fun j v hv => h2.cell j v hv) rfl rfl rfl rfl rfl rfl ?_)
    refine lC (o_lds tK (fun j v hv => h3.cell j v hv) rfl rfl rfl rfl rfl rfl ?_)
    refine lC (o_call fo17 rfl rfl rfl (sameT_spec t s M _ _ _ ht hs hlow hz hzs) ?_)
    rintro _ w13 ⟨rfl, ew13⟩
    replace hE := ew13.bl hE hB
    replace ht := Rep.ext ht ew13
    replace ha := Rep.ext ha ew13
    replace hk := hk.ext ew13
    replace hs := Rep.ext hs ew13
    replace has := Rep.ext has ew13
    replace hks := hks.ext ew13
    replace h2 := h2.ext ew13
    replace h3 := h3.ext ew13
    replace hlow := hlow.ext ew13
    replace hB := ew13.z hB
    refine l_p 1 tK rfl ?_
    refine lC (o_beq tK rfl rfl rfl rfl rfl rfl ?_)
    refine l_p 1 tK rfl (q1 (c_ret (x_ret1 rfl rfl ?_)))
    exact ⟨by simp [c4, c5], hE⟩
  refine a_skip 3 rfl rfl rfl (by kernel_rfl) (fun _ _ _ h => h) hS ?_
  refine a_skip 4 rfl rfl rfl (by kernel_rfl) (fun _ _ _ h => h) hS ?_
  refine a_p 5 tK rfl rfl rfl rfl (by kernel_rfl) (fun _ _ _ h => h) hS ?_
  refine a_p 6 tK rfl rfl rfl rfl (by kernel_rfl) (fun _ _ _ h => h) hS ?_
  refine a_skip 7 rfl rfl rfl (by kernel_rfl) (fun _ _ _ h => h) hS ?_
  refine a_skip 8 rfl rfl rfl (by kernel_rfl) (fun _ _ _ h => h) hS ?_
  refine a_skip 9 rfl rfl rfl (by kernel_rfl) (fun _ _ _ h => h) hS ?_
  refine a_skip 10 rfl rfl rfl (by kernel_rfl) (fun _ _ _ h => h) hS ?_
  refine a_skip 11 rfl rfl rfl (by kernel_rfl) (fun _ _ _ h => h) hS ?_
  refine a_p 12 tK rfl rfl rfl rfl (by kernel_rfl) (fun _ _ _ h => h) hS ?_
  refine a_p 13 tK rfl rfl rfl rfl (by kernel_rfl) (fun _ _ _ h => h) hS ?_
  refine a_end (by kernel_rfl) ?_
  refine x_seq (q0 ?_)
  refine lC (o_lds tK (fun j v hv => h2.cell j v hv) rfl rfl rfl rfl rfl rfl ?_)
  refine lC (o_lds tK (fun j v hv => h3.cell j v hv) rfl rfl rfl rfl rfl rfl ?_)
  refine lC (o_call fo17 rfl rfl rfl (sameT_spec t s M _ _ _ ht hs hlow hz hzs) ?_)
  rintro _ w14 ⟨rfl, ew14⟩
  replace hE := ew14.bl hE hB
  replace ht := Rep.ext ht ew14
  replace ha := Rep.ext ha ew14
  replace hk := hk.ext ew14
  replace hs := Rep.ext hs ew14
  replace has := Rep.ext has ew14
  replace hks := hks.ext ew14
  replace h2 := h2.ext ew14
  replace h3 := h3.ext ew14
  replace hlow := hlow.ext ew14
  replace hB := ew14.z hB
  refine l_p 1 tK rfl ?_
  refine lC (o_beq tK rfl rfl rfl rfl rfl rfl ?_)
  refine l_p 1 tK rfl (q1 (c_ret (x_ret1 rfl rfl ?_)))
  exact ⟨by simp [c4], hE⟩
end Go.Proofs.YtohfnpmehgpphaaGreat
