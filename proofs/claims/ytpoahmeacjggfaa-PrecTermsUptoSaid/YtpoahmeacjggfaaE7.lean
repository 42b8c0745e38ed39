/- Part 7 of the proof: rules, plain laws and walks, merged out of smaller texts. -/
import Derived.Test.YtpoahmeacjggfaaE6
namespace Go.Proofs.Ytpoahmeacjggfaa
open Go Rw Go.RowKit
set_option maxRecDepth 100000
theorem equalP_spec (l k : List Tm) (M : Nat → Prop) (w : World) (v u : Value) (hf : ∀ x ∈ l, ∀ (y : Tm) (M : Nat → Prop) (w : World) (v u : Value), AnnS x → AnnS y → Rep.R M w v x → Rep.R M w u y → Low M w → Calls Try.prog 92 #[v, u] w (Ret fun r w' => r = .bool (termsF x y) ∧ Ext w w'))
    (hl : ∀ x ∈ l, AnnS x) (hl2 : ∀ x ∈ k, AnnS x) (hs : Sl M w v l) (hk : Sl M w u k) (Lw : Low M w) :
    Calls Try.prog 117 #[v, u, .func (.func 92) #[] #[]] w (Ret fun r w' => r = .bool (allK (l.map termsF) k) ∧ Ext w w') := by
  have hE := Below.refl w.heap.size w
  have hB := lR w.heap.size
  have hL := hs.lt
  refine cN (n := 32) Try.func117 rfl rfl rfl ?_
  refine q0 (lP 1 tK rfl (q1 (cS (q0 (lP 1 tK rfl ?_)))))
  refine lC (o_len tK hs rfl rfl rfl rfl rfl ?_)
  refine lP 1 tK rfl ?_
  refine lC (o_len tK hk rfl rfl rfl rfl rfl ?_)
  refine lP 1 tK rfl (q1 ?_)
  refine c_ifN _ rfl (fun c1 => ?_) (fun c1 => ?_)
  · refine q0 (lP 1 tK rfl (q1 (cR (xR (x1_ rfl rfl ?_)))))
    exact ⟨by rw [allK_len (by omega)], hE⟩
  refine cK (xS (cS (q0 (lP 1 tK rfl ?_))))
  refine lC (o_len tK hs rfl rfl rfl rfl rfl ?_)
  refine lP 1 tK rfl (q1 (cB ?_))
  have hll : l.length = k.length := by omega
  refine c_loop (X := Nat) (fun i => [(1, u), (2, .func (.func 92) #[] #[]), (15, v), (16, .int .i64 (l.length : Int)), (17, .int .i64 (i : Nat))]) (fun i w' => i ≤ l.length ∧ (∀ j (h1 : j < l.length) (h2 : j < k.length), j < i → termsF l[j] k[j] = true) ∧ Sl M w' v l ∧ Sl M w' u k ∧ Low M w' ∧ Below w.heap.size w w' ∧ w.heap.size ≤ w'.heap.size) (fun i => l.length - i) (0) (s5 rfl rfl rfl rfl rfl) ?_ ?_
  · exact ⟨Nat.zero_le _, fun j _ _ h => by omega, hs, hk, Lw, hE, hB⟩
  rintro i w1 ⟨hi, htk, hs, hk, Lw, hE, hB⟩
  refine q0 (lP 1 tK rfl (q1 (cS ?_)))
  refine cP _ rfl (fun c2 => ?_) (fun c2 => ?_)
  · have hil : i < l.length := by omega
    have hik : i < k.length := by omega
    have hz1 := hl _ (gM hil)
    have hz2 := hl2 _ (gM hik)
    refine cK (xS (cS (cB (q0 (lP 1 tK rfl ?_)))))
    refine lC (o_ixS tK hs (gE hil) rfl rfl rfl rfl rfl rfl rfl rfl rfl ?_)
    intro ebx eox eux hyx hX
    obtain ⟨akvx, kvx, rfl, opx, nmx, agx, n64x, hax, hkx⟩ := tm_open hyx
    replace hX : At M w1 ebx eox [.int .u8 l[i].op, .string l[i].name, .string l[i].arg, .int .i64 l[i].n, .bool l[i].has, .int .u8 l[i].ann.op, .string l[i].ann.name, .int .i64 l[i].ann.n, akvx, kvx] := hX
    refine lC (oL tK (fun j v hv => hX.cell j v hv) rfl rfl rfl rfl rfl rfl ?_)
    refine lC (o_new tK rfl rfl rfl ?_)
    intro b8 w2 qb8 ew2 hb8
    have nb8 := nO Lw qb8
    refine lP 1 tK rfl ?_
    refine lC (o_st tK hb8 rfl rfl rfl rfl (Rep.one hyx) rfl rfl ?_)
    intro w3 h8 uw3 bew3
    have ew3 : Ext w1 w3 := ew2.trans (bew3 _ (lQ qb8.symm))
    replace hE := ew3.bl hE hB
    replace hs := hs.Y ew3
    replace hk := hk.Y ew3
    replace hyx := Rep.Y hyx ew3
    replace hax := Rep.Y hax ew3
    replace hkx := hkx.Y ew3
    replace hX := hX.Y ew3
    replace Lw := Lw.Y ew3
    replace hB := ew3.z hB
    replace h8 : Box w3 b8 59 [.int .u8 l[i].op, .string l[i].name, .string l[i].arg, .int .i64 l[i].n, .bool l[i].has, .int .u8 l[i].ann.op, .string l[i].ann.name, .int .i64 l[i].ann.n, akvx, kvx] := h8
    replace h8 := h8.at nb8
    refine q1 (q0 (lP 2 tK rfl ?_))
    refine lC (o_ixS tK hk (gE hik) rfl rfl rfl rfl rfl rfl rfl rfl rfl ?_)
    intro eby eoy euy hyy haty
    obtain ⟨akvy, kvy, rfl, opy, nmy, agy, n64y, hay, hky⟩ := tm_open hyy
    replace haty : At M w3 eby eoy [.int .u8 k[i].op, .string k[i].name, .string k[i].arg, .int .i64 k[i].n, .bool k[i].has, .int .u8 k[i].ann.op, .string k[i].ann.name, .int .i64 k[i].ann.n, akvy, kvy] := haty
    refine lC (oL tK (fun j v hv => haty.cell j v hv) rfl rfl rfl rfl rfl rfl ?_)
    refine lC (o_new tK rfl rfl rfl ?_)
    intro b9 w4 qb9 ew4 hb9
    have nb9 := nO Lw qb9
    refine lC (o_st tK hb9 rfl rfl rfl rfl (Rep.one hyy) rfl rfl ?_)
    intro w5 h9 uw5 bew5
    have ew5 : Ext w3 w5 := ew4.trans (bew5 _ (lQ qb9.symm))
    replace hE := ew5.bl hE hB
    replace hs := hs.Y ew5
    replace hk := hk.Y ew5
    replace hyx := Rep.Y hyx ew5
    replace hax := Rep.Y hax ew5
    replace hkx := hkx.Y ew5
    replace hX := hX.Y ew5
    replace h8 := h8.Y ew5
    replace hyy := Rep.Y hyy ew5
    replace hay := Rep.Y hay ew5
    replace hky := hky.Y ew5
    replace haty := haty.Y ew5
    replace Lw := Lw.Y ew5
    replace hB := ew5.z hB
    replace h9 : Box w5 b9 59 [.int .u8 k[i].op, .string k[i].name, .string k[i].arg, .int .i64 k[i].n, .bool k[i].has, .int .u8 k[i].ann.op, .string k[i].ann.name, .int .i64 k[i].ann.n, akvy, kvy] := h9
    replace h9 := h9.at nb9
    refine q1 (q0 (lP 1 tK rfl ?_))
    refine lC (oL tK (fun j v hv => h8.cell j v hv) rfl rfl rfl rfl rfl rfl ?_)
    refine lC (oL tK (fun j v hv => h9.cell j v hv) rfl rfl rfl rfl rfl rfl ?_)
    refine lC (o_dyn rfl fo92 rfl rfl rfl (hf _ (gM hil) _ _ _ _ _ hz1 hz2 hyx hyy Lw) ?_)
    rintro _ w6 ⟨rfl, ew6⟩
    replace hE := ew6.bl hE hB
    replace hs := hs.Y ew6
    replace hk := hk.Y ew6
    replace hyx := Rep.Y hyx ew6
    replace hax := Rep.Y hax ew6
    replace hkx := hkx.Y ew6
    replace hX := hX.Y ew6
    replace h8 := h8.Y ew6
    replace hyy := Rep.Y hyy ew6
    replace hay := Rep.Y hay ew6
    replace hky := hky.Y ew6
    replace haty := haty.Y ew6
    replace h9 := h9.Y ew6
    replace Lw := Lw.Y ew6
    replace hB := ew6.z hB
    refine lP 1 tK rfl (q1 ?_)
    refine c_ifB _ rfl (fun c3 => ?_) (fun c3 => ?_)
    · refine q0 (lP 1 tK rfl (q1 (cR (xB (xR (xR (xB (xR (x1_ rfl rfl ?_)))))))))
      exact ⟨by rw [allK_no hil hik (by simpa using c3)], hE⟩
    refine cK (x_blk (xS (cG ?_)))
    refine lC (o_ai rfl rfl rfl (by omega) rfl rfl ?_)
    refine lP 1 tK rfl (lN ?_)
    exact x_round (i + 1) (s5 rfl rfl rfl rfl (gN rfl (by omega))) ⟨by omega, fun j h1 h2 hj => (Nat.lt_succ_iff_lt_or_eq.1 hj).elim (htk j h1 h2) (fun e => by subst e; simpa using c3), hs, hk, Lw, hE, hB⟩ (by omega)
  refine c_exit (xE (xE (x_blkE (xS (q0 (lP 1 tK rfl (q1 (cR (x1_ rfl rfl ?_)))))))))
  obtain rfl : i = l.length := by omega
  exact ⟨by rw [allK_yes hll htk], hE⟩
theorem alikeP_spec : ∀ (t : Tm) (s : Tm) (M : Nat → Prop) (w : World) (v u : Value), AnnS t → AnnS s → Rep.R M w v t → Rep.R M w u s → Low M w → Calls Try.prog 92 #[v, u] w (Ret fun r w' => r = .bool (termsF t s) ∧ Ext w w') := by
  refine Tm.ind fun t ih => ?_
  intro s M w v u hz hzs ht hs Lw
  have hE := Below.refl w.heap.size w
  have hB := lR w.heap.size
  obtain ⟨akv, kv, rfl, op, nm, ag, n64, ha, hk⟩ := tm_open ht
  obtain ⟨akvs, kvs, rfl, ops, nms, ags, n64s, has, hks⟩ := tm_open hs
  refine cN (n := 55) Try.func92 rfl rfl rfl ?_
  refine q0 ?_
  refine lC (o_box rfl rfl rfl ?_)
  intro b2 w1 hb_b2 ew1 h2
  replace h2 : Box _ b2 59 [.int .u8 t.op, .string t.name, .string t.arg, .int .i64 t.n, .bool t.has, .int .u8 t.ann.op, .string t.ann.name, .int .i64 t.ann.n, akv, kv] := h2
  replace h2 := h2.at (nO Lw hb_b2)
  replace hE := ew1.bl hE hB
  replace ht := Rep.Y ht ew1
  replace ha := Rep.Y ha ew1
  replace hk := hk.Y ew1
  replace hs := Rep.Y hs ew1
  replace has := Rep.Y has ew1
  replace hks := hks.Y ew1
  replace Lw := Lw.Y ew1
  replace hB := ew1.z hB
  refine lC (o_box rfl rfl rfl ?_)
  intro b3 w2 hb_b3 ew2 h3
  replace h3 : Box _ b3 59 [.int .u8 s.op, .string s.name, .string s.arg, .int .i64 s.n, .bool s.has, .int .u8 s.ann.op, .string s.ann.name, .int .i64 s.ann.n, akvs, kvs] := h3
  replace h3 := h3.at (nO Lw hb_b3)
  replace hE := ew2.bl hE hB
  replace ht := Rep.Y ht ew2
  replace ha := Rep.Y ha ew2
  replace hk := hk.Y ew2
  replace hs := Rep.Y hs ew2
  replace has := Rep.Y has ew2
  replace hks := hks.Y ew2
  replace h2 := h2.Y ew2
  replace Lw := Lw.Y ew2
  replace hB := ew2.z hB
  refine lP 1 tK rfl (q1 (cS (q0 (lP 1 tK rfl ?_))))
  refine lC (oD tK (h2.cell 0 _ rfl) rfl rfl rfl rfl rfl ?_)
  refine lP 1 tK rfl ?_
  refine lC (oD tK (h3.cell 0 _ rfl) rfl rfl rfl rfl rfl ?_)
  refine lP 2 tK rfl ?_
  refine l_splitN 10 _ rfl (fun c1 => ?_) (fun c1 => ?_)
  · refine lP 27 tK rfl (q1 (cI rfl (q0 (lP 1 tK rfl (q1 (cR (xR (x1_ rfl rfl ?_))))))))
    refine ⟨?_, hE⟩
    rw [termsF_eq]
    clear ih ht hs hk hks ha has h2 h3 hz hzs
    simp_all
  refine lP 1 tK rfl ?_
  refine lC (oD tK (h2.cell 1 _ rfl) rfl rfl rfl rfl rfl ?_)
  refine lP 1 tK rfl ?_
  refine lC (oD tK (h3.cell 1 _ rfl) rfl rfl rfl rfl rfl ?_)
  refine lP 3 tK rfl ?_
  refine l_splitN 17 _ rfl (fun c2 => ?_) (fun c2 => ?_)
  · refine lP 20 tK rfl (q1 (cI rfl (q0 (lP 1 tK rfl (q1 (cR (xR (x1_ rfl rfl ?_))))))))
    refine ⟨?_, hE⟩
    rw [termsF_eq]
    clear ih ht hs hk hks ha has h2 h3 hz hzs
    simp_all
  refine lP 1 tK rfl ?_
  refine lC (oD tK (h2.cell 2 _ rfl) rfl rfl rfl rfl rfl ?_)
  refine lP 1 tK rfl ?_
  refine lC (oD tK (h3.cell 2 _ rfl) rfl rfl rfl rfl rfl ?_)
  refine lP 3 tK rfl ?_
  refine l_splitN 24 _ rfl (fun c3 => ?_) (fun c3 => ?_)
  · refine lP 13 tK rfl (q1 (cI rfl (q0 (lP 1 tK rfl (q1 (cR (xR (x1_ rfl rfl ?_))))))))
    refine ⟨?_, hE⟩
    rw [termsF_eq]
    clear ih ht hs hk hks ha has h2 h3 hz hzs
    simp_all
  refine lP 1 tK rfl ?_
  refine lC (oD tK (h2.cell 3 _ rfl) rfl rfl rfl rfl rfl ?_)
  refine lP 1 tK rfl ?_
  refine lC (oD tK (h3.cell 3 _ rfl) rfl rfl rfl rfl rfl ?_)
  refine lP 3 tK rfl ?_
  refine l_splitN 31 _ rfl (fun c4 => ?_) (fun c4 => ?_)
  · refine lP 6 tK rfl (q1 (cI rfl (q0 (lP 1 tK rfl (q1 (cR (xR (x1_ rfl rfl ?_))))))))
    refine ⟨?_, hE⟩
    rw [termsF_eq]
    clear ih ht hs hk hks ha has h2 h3 hz hzs
    simp_all
  refine lP 1 tK rfl ?_
  refine lC (oD tK (h2.cell 4 _ rfl) rfl rfl rfl rfl rfl ?_)
  refine lP 1 tK rfl ?_
  refine lC (oD tK (h3.cell 4 _ rfl) rfl rfl rfl rfl rfl ?_)
  refine lC (o_bne tK rfl rfl rfl rfl rfl rfl ?_)
  refine lP 1 tK rfl (q1 ?_)
  refine c_if _ rfl (fun c5 => ?_) (fun c5 => ?_)
  · refine q0 (lP 1 tK rfl (q1 (cR (xR (x1_ rfl rfl ?_)))))
    refine ⟨?_, hE⟩
    rw [termsF_eq]
    clear ih ht hs hk hks ha has h2 h3 hz hzs
    simp_all
  have hhe : t.has = s.has := by simpa using c5
  refine cK (xS (q0 (lP 1 tK rfl ?_)))
  refine lC (oD tK (h2.cell 4 _ rfl) rfl rfl rfl rfl rfl ?_)
  refine lP 2 tK rfl ?_
  refine l_splitB 41 _ rfl (fun c6 => ?_) (fun c6 => ?_)
  · refine lP 8 tK rfl ?_
    refine lC (oD tK (h2.cell 9 _ rfl) rfl rfl rfl rfl rfl ?_)
    refine lP 1 tK rfl ?_
    refine lC (oD tK (h3.cell 9 _ rfl) rfl rfl rfl rfl rfl ?_)
    refine lC (oK fo117 rfl rfl rfl (equalP_spec t.kids s.kids M _ _ _ ih (fun x hx => hz.kid hx) (fun x hx => hzs.kid hx) hk hks Lw) ?_)
    rintro _ w3 ⟨rfl, ew3⟩
    replace hE := ew3.bl hE hB
    replace ht := Rep.Y ht ew3
    replace ha := Rep.Y ha ew3
    replace hk := hk.Y ew3
    replace hs := Rep.Y hs ew3
    replace has := Rep.Y has ew3
    replace hks := hks.Y ew3
    replace h2 := h2.Y ew3
    replace h3 := h3.Y ew3
    replace Lw := Lw.Y ew3
    replace hB := ew3.z hB
    refine lP 2 tK rfl (q1 (cR (x1_ rfl rfl ?_)))
    refine ⟨?_, hE⟩
    rw [termsF_eq]
    clear ih ht hs hk hks ha has h2 h3 hz hzs
    simp_all
  refine lP 1 tK rfl ?_
  refine lC (oL tK (fun j v hv => (h2).mid 5 (sub := [.int .u8 t.ann.op, .string t.ann.name, .int .i64 t.ann.n, akv]) rfl j v hv) rfl rfl rfl rfl rfl rfl ?_)
  refine lP 1 tK rfl ?_
  refine lC (oL tK (fun j v hv => (h3).mid 5 (sub := [.int .u8 s.ann.op, .string s.ann.name, .int .i64 s.ann.n, akvs]) rfl j v hv) rfl rfl rfl rfl rfl rfl ?_)
  refine lC (oK fo42 rfl rfl rfl (lessP_spec t.ann s.ann M _ _ _ ha has Lw hz.self hzs.self) ?_)
  rintro _ w4 ⟨rfl, ew4⟩
  replace hE := ew4.bl hE hB
  replace ht := Rep.Y ht ew4
  replace ha := Rep.Y ha ew4
  replace hk := hk.Y ew4
  replace hs := Rep.Y hs ew4
  replace has := Rep.Y has ew4
  replace hks := hks.Y ew4
  replace h2 := h2.Y ew4
  replace h3 := h3.Y ew4
  replace Lw := Lw.Y ew4
  replace hB := ew4.z hB
  refine lP 2 tK rfl ?_
  refine l_split 48 _ rfl (fun c7 => ?_) (fun c7 => ?_)
  · refine lP 1 tK rfl ?_
    refine lC (oD tK (h2.cell 9 _ rfl) rfl rfl rfl rfl rfl ?_)
    refine lP 1 tK rfl ?_
    refine lC (oD tK (h3.cell 9 _ rfl) rfl rfl rfl rfl rfl ?_)
    refine lC (oK fo117 rfl rfl rfl (equalP_spec t.kids s.kids M _ _ _ ih (fun x hx => hz.kid hx) (fun x hx => hzs.kid hx) hk hks Lw) ?_)
    rintro _ w5 ⟨rfl, ew5⟩
    replace hE := ew5.bl hE hB
    replace ht := Rep.Y ht ew5
    replace ha := Rep.Y ha ew5
    replace hk := hk.Y ew5
    replace hs := Rep.Y hs ew5
    replace has := Rep.Y has ew5
    replace hks := hks.Y ew5
    replace h2 := h2.Y ew5
    replace h3 := h3.Y ew5
    replace Lw := Lw.Y ew5
    replace hB := ew5.z hB
    refine lP 2 tK rfl (q1 (cR (x1_ rfl rfl ?_)))
    refine ⟨?_, hE⟩
    rw [termsF_eq]
    clear ih ht hs hk hks ha has h2 h3 hz hzs
    simp_all
  refine lP 7 tK rfl (q1 (cR (x1_ rfl rfl ?_)))
  refine ⟨?_, hE⟩
  rw [termsF_eq]
  clear ih ht hs hk hks ha has h2 h3 hz hzs
  simp_all
theorem Terms_spec (t s : Tm) (M : Nat → Prop) (w : World) (v u : Value) (ht : Rep.R M w v t) (hs : Rep.R M w u s) (Lw : Low M w) (hz : AnnS t) (hzs : AnnS s) :
    Calls Try.prog 60 #[v, u] w (Ret fun r w' => r = .bool (rightT t false && (rightT s false && termsF t s)) ∧ Ext w w') := by
  have hE := Below.refl w.heap.size w
  have hB := lR w.heap.size
  obtain ⟨akv, kv, rfl, op, nm, ag, n64, ha, hk⟩ := tm_open ht
  obtain ⟨akvs, kvs, rfl, ops, nms, ags, n64s, has, hks⟩ := tm_open hs
  refine cN (n := 16) Try.func60 rfl rfl rfl ?_
  refine q0 ?_
  refine lC (o_box rfl rfl rfl ?_)
  intro b2 w1 hb_b2 ew1 h2
  replace h2 : Box _ b2 59 [.int .u8 t.op, .string t.name, .string t.arg, .int .i64 t.n, .bool t.has, .int .u8 t.ann.op, .string t.ann.name, .int .i64 t.ann.n, akv, kv] := h2
  replace h2 := h2.at (nO Lw hb_b2)
  replace hE := ew1.bl hE hB
  replace ht := Rep.Y ht ew1
  replace ha := Rep.Y ha ew1
  replace hk := hk.Y ew1
  replace hs := Rep.Y hs ew1
  replace has := Rep.Y has ew1
  replace hks := hks.Y ew1
  replace Lw := Lw.Y ew1
  replace hB := ew1.z hB
  refine lC (o_box rfl rfl rfl ?_)
  intro b3 w2 hb_b3 ew2 h3
  replace h3 : Box _ b3 59 [.int .u8 s.op, .string s.name, .string s.arg, .int .i64 s.n, .bool s.has, .int .u8 s.ann.op, .string s.ann.name, .int .i64 s.ann.n, akvs, kvs] := h3
  replace h3 := h3.at (nO Lw hb_b3)
  replace hE := ew2.bl hE hB
  replace ht := Rep.Y ht ew2
  replace ha := Rep.Y ha ew2
  replace hk := hk.Y ew2
  replace hs := Rep.Y hs ew2
  replace has := Rep.Y has ew2
  replace hks := hks.Y ew2
  replace h2 := h2.Y ew2
  replace Lw := Lw.Y ew2
  replace hB := ew2.z hB
  refine lP 1 tK rfl (q1 (q0 ?_))
  refine lC (oL tK (fun j v hv => h2.cell j v hv) rfl rfl rfl rfl rfl rfl ?_)
  refine lC (oK fo87 rfl rfl rfl (tRight_spec t M _ _ ht Lw hz) ?_)
  rintro _ w3 ⟨rfl, ew3⟩
  replace hE := ew3.bl hE hB
  replace ht := Rep.Y ht ew3
  replace ha := Rep.Y ha ew3
  replace hk := hk.Y ew3
  replace hs := Rep.Y hs ew3
  replace has := Rep.Y has ew3
  replace hks := hks.Y ew3
  replace h2 := h2.Y ew3
  replace h3 := h3.Y ew3
  replace Lw := Lw.Y ew3
  replace hB := ew3.z hB
  refine lP 1 tK rfl ?_
  refine l_split 7 _ rfl (fun c1 => ?_) (fun c1 => ?_)
  · refine lC (oL tK (fun j v hv => h3.cell j v hv) rfl rfl rfl rfl rfl rfl ?_)
    refine lC (oK fo87 rfl rfl rfl (tRight_spec s M _ _ hs Lw hzs) ?_)
    rintro _ w4 ⟨rfl, ew4⟩
    replace hE := ew4.bl hE hB
    replace ht := Rep.Y ht ew4
    replace ha := Rep.Y ha ew4
    replace hk := hk.Y ew4
    replace hs := Rep.Y hs ew4
    replace has := Rep.Y has ew4
    replace hks := hks.Y ew4
    replace h2 := h2.Y ew4
    replace h3 := h3.Y ew4
    replace Lw := Lw.Y ew4
    replace hB := ew4.z hB
    refine lP 2 tK rfl ?_
    refine l_split 11 _ rfl (fun c2 => ?_) (fun c2 => ?_)
    · refine lC (oL tK (fun j v hv => h2.cell j v hv) rfl rfl rfl rfl rfl rfl ?_)
      refine lC (oL tK (fun j v hv => h3.cell j v hv) rfl rfl rfl rfl rfl rfl ?_)
      refine lC (oK fo92 rfl rfl rfl (alikeP_spec t s M _ _ _ hz hzs ht hs Lw) ?_)
      rintro _ w5 ⟨rfl, ew5⟩
      replace hE := ew5.bl hE hB
      replace ht := Rep.Y ht ew5
      replace ha := Rep.Y ha ew5
      replace hk := hk.Y ew5
      replace hs := Rep.Y hs ew5
      replace has := Rep.Y has ew5
      replace hks := hks.Y ew5
      replace h2 := h2.Y ew5
      replace h3 := h3.Y ew5
      replace Lw := Lw.Y ew5
      replace hB := ew5.z hB
      refine lP 2 tK rfl (q1 (cR (x1_ rfl rfl ?_)))
      exact ⟨by simp [c1, c2], hE⟩
    refine lP 5 tK rfl (q1 (cR (x1_ rfl rfl ?_)))
    exact ⟨by simp [c1, c2], hE⟩
  refine lP 9 tK rfl (q1 (cR (x1_ rfl rfl ?_)))
  exact ⟨by simp [c1], hE⟩
theorem refTerms_spec : ∀ (t : Tm) (s : Tm) (M : Nat → Prop) (w : World) (v u : Value), AnnS t → AnnS s → Rep.R M w v t → Rep.R M w u s → Low M w → Calls Try.prog 62 #[v, u] w (Ret fun r w' => r = .bool (termsF t s) ∧ Ext w w') := by
  refine Tm.ind fun t ih => ?_
  intro s M w v u hz hzs ht hs Lw
  have hE := Below.refl w.heap.size w
  have hB := lR w.heap.size
  obtain ⟨akv, kv, rfl, op, nm, ag, n64, ha, hk⟩ := tm_open ht
  obtain ⟨akvs, kvs, rfl, ops, nms, ags, n64s, has, hks⟩ := tm_open hs
  have hlt := hk.lt
  have hlts := hks.lt
  refine cN (n := 79) Try.func62 rfl rfl rfl ?_
  refine q0 ?_
  refine lC (o_box rfl rfl rfl ?_)
  intro b2 w1 hb_b2 ew1 h2
  replace h2 : Box _ b2 59 [.int .u8 t.op, .string t.name, .string t.arg, .int .i64 t.n, .bool t.has, .int .u8 t.ann.op, .string t.ann.name, .int .i64 t.ann.n, akv, kv] := h2
  replace h2 := h2.at (nO Lw hb_b2)
  replace hE := ew1.bl hE hB
  replace ht := Rep.Y ht ew1
  replace ha := Rep.Y ha ew1
  replace hk := hk.Y ew1
  replace hs := Rep.Y hs ew1
  replace has := Rep.Y has ew1
  replace hks := hks.Y ew1
  replace Lw := Lw.Y ew1
  replace hB := ew1.z hB
  refine lC (o_box rfl rfl rfl ?_)
  intro b3 w2 hb_b3 ew2 h3
  replace h3 : Box _ b3 59 [.int .u8 s.op, .string s.name, .string s.arg, .int .i64 s.n, .bool s.has, .int .u8 s.ann.op, .string s.ann.name, .int .i64 s.ann.n, akvs, kvs] := h3
  replace h3 := h3.at (nO Lw hb_b3)
  replace hE := ew2.bl hE hB
  replace ht := Rep.Y ht ew2
  replace ha := Rep.Y ha ew2
  replace hk := hk.Y ew2
  replace hs := Rep.Y hs ew2
  replace has := Rep.Y has ew2
  replace hks := hks.Y ew2
  replace h2 := h2.Y ew2
  replace Lw := Lw.Y ew2
  replace hB := ew2.z hB
  refine lP 1 tK rfl (q1 (cS (q0 (lP 1 tK rfl ?_))))
  refine lC (oD tK (h2.cell 0 _ rfl) rfl rfl rfl rfl rfl ?_)
  refine lP 1 tK rfl ?_
  refine lC (oD tK (h3.cell 0 _ rfl) rfl rfl rfl rfl rfl ?_)
  refine lP 2 tK rfl ?_
  refine l_splitN 11 _ rfl (fun c1 => ?_) (fun c1 => ?_)
  · refine lP 48 tK rfl (q1 (cI rfl (q0 (lP 1 tK rfl (q1 (cR (xR (x1_ rfl rfl ?_))))))))
    refine ⟨?_, hE⟩
    rw [termsF_eq]
    have hll := fun h => allK_len (l := t.kids) (k := s.kids) h
    clear ih ht hs hk hks ha has h2 h3 hz hzs
    first | (simp_all; done) | (rw [hll (by omega)]; simp)
  refine lP 1 tK rfl ?_
  refine lC (oD tK (h2.cell 1 _ rfl) rfl rfl rfl rfl rfl ?_)
  refine lP 1 tK rfl ?_
  refine lC (oD tK (h3.cell 1 _ rfl) rfl rfl rfl rfl rfl ?_)
  refine lP 3 tK rfl ?_
  refine l_splitN 18 _ rfl (fun c2 => ?_) (fun c2 => ?_)
  · refine lP 41 tK rfl (q1 (cI rfl (q0 (lP 1 tK rfl (q1 (cR (xR (x1_ rfl rfl ?_))))))))
    refine ⟨?_, hE⟩
    rw [termsF_eq]
    have hll := fun h => allK_len (l := t.kids) (k := s.kids) h
    clear ih ht hs hk hks ha has h2 h3 hz hzs
    first | (simp_all; done) | (rw [hll (by omega)]; simp)
  refine lP 1 tK rfl ?_
  refine lC (oD tK (h2.cell 2 _ rfl) rfl rfl rfl rfl rfl ?_)
  refine lP 1 tK rfl ?_
  refine lC (oD tK (h3.cell 2 _ rfl) rfl rfl rfl rfl rfl ?_)
  refine lP 3 tK rfl ?_
  refine l_splitN 25 _ rfl (fun c3 => ?_) (fun c3 => ?_)
  · refine lP 34 tK rfl (q1 (cI rfl (q0 (lP 1 tK rfl (q1 (cR (xR (x1_ rfl rfl ?_))))))))
    refine ⟨?_, hE⟩
    rw [termsF_eq]
    have hll := fun h => allK_len (l := t.kids) (k := s.kids) h
    clear ih ht hs hk hks ha has h2 h3 hz hzs
    first | (simp_all; done) | (rw [hll (by omega)]; simp)
  refine lP 1 tK rfl ?_
  refine lC (oD tK (h2.cell 3 _ rfl) rfl rfl rfl rfl rfl ?_)
  refine lP 1 tK rfl ?_
  refine lC (oD tK (h3.cell 3 _ rfl) rfl rfl rfl rfl rfl ?_)
  refine lP 3 tK rfl ?_
  refine l_splitN 32 _ rfl (fun c4 => ?_) (fun c4 => ?_)
  · refine lP 27 tK rfl (q1 (cI rfl (q0 (lP 1 tK rfl (q1 (cR (xR (x1_ rfl rfl ?_))))))))
    refine ⟨?_, hE⟩
    rw [termsF_eq]
    have hll := fun h => allK_len (l := t.kids) (k := s.kids) h
    clear ih ht hs hk hks ha has h2 h3 hz hzs
    first | (simp_all; done) | (rw [hll (by omega)]; simp)
  refine lP 1 tK rfl ?_
  refine lC (oD tK (h2.cell 4 _ rfl) rfl rfl rfl rfl rfl ?_)
  refine lP 1 tK rfl ?_
  refine lC (oD tK (h3.cell 4 _ rfl) rfl rfl rfl rfl rfl ?_)
  refine lC (o_bne tK rfl rfl rfl rfl rfl rfl ?_)
  refine lP 2 tK rfl ?_
  refine l_split 39 _ rfl (fun c5 => ?_) (fun c5 => ?_)
  · refine lP 20 tK rfl (q1 (cI rfl (q0 (lP 1 tK rfl (q1 (cR (xR (x1_ rfl rfl ?_))))))))
    refine ⟨?_, hE⟩
    rw [termsF_eq]
    have hll := fun h => allK_len (l := t.kids) (k := s.kids) h
    clear ih ht hs hk hks ha has h2 h3 hz hzs
    first | (simp_all; done) | (rw [hll (by omega)]; simp)
  refine lP 1 tK rfl ?_
  refine lC (oD tK (h2.cell 9 _ rfl) rfl rfl rfl rfl rfl ?_)
  refine lC (o_len tK hk rfl rfl rfl rfl rfl ?_)
  refine lP 1 tK rfl ?_
  refine lC (oD tK (h3.cell 9 _ rfl) rfl rfl rfl rfl rfl ?_)
  refine lC (o_len tK hks rfl rfl rfl rfl rfl ?_)
  refine lP 3 tK rfl ?_
  refine l_splitN 48 _ rfl (fun c6 => ?_) (fun c6 => ?_)
  · refine lP 11 tK rfl (q1 (cI rfl (q0 (lP 1 tK rfl (q1 (cR (xR (x1_ rfl rfl ?_))))))))
    refine ⟨?_, hE⟩
    rw [termsF_eq]
    have hll := fun h => allK_len (l := t.kids) (k := s.kids) h
    clear ih ht hs hk hks ha has h2 h3 hz hzs
    first | (simp_all; done) | (rw [hll (by omega)]; simp)
  refine lP 1 tK rfl ?_
  refine lC (oD tK (h2.cell 4 _ rfl) rfl rfl rfl rfl rfl ?_)
  refine lP 1 tK rfl ?_
  refine l_split 51 _ rfl (fun c7 => ?_) (fun c7 => ?_)
  · refine lP 1 tK rfl ?_
    refine lC (oL tK (fun j v hv => (h2).mid 5 (sub := [.int .u8 t.ann.op, .string t.ann.name, .int .i64 t.ann.n, akv]) rfl j v hv) rfl rfl rfl rfl rfl rfl ?_)
    refine lP 1 tK rfl ?_
    refine lC (oL tK (fun j v hv => (h3).mid 5 (sub := [.int .u8 s.ann.op, .string s.ann.name, .int .i64 s.ann.n, akvs]) rfl j v hv) rfl rfl rfl rfl rfl rfl ?_)
    refine lC (oK fo41 rfl rfl rfl (refAsked_spec true t.ann s.ann M _ _ _ ha has Lw hz.self hzs.self) ?_)
    rintro _ w3 ⟨rfl, ew3⟩
    replace hE := ew3.bl hE hB
    replace ht := Rep.Y ht ew3
    replace ha := Rep.Y ha ew3
    replace hk := hk.Y ew3
    replace hs := Rep.Y hs ew3
    replace has := Rep.Y has ew3
    replace hks := hks.Y ew3
    replace h2 := h2.Y ew3
    replace h3 := h3.Y ew3
    replace Lw := Lw.Y ew3
    replace hB := ew3.z hB
    refine lP 3 tK rfl (q1 ?_)
    refine c_ifB _ rfl (fun c8 => ?_) (fun c8 => ?_)
    · refine q0 (lP 1 tK rfl (q1 (cR (xR (x1_ rfl rfl ?_)))))
      refine ⟨?_, hE⟩
      rw [termsF_eq]
      have hll := fun h => allK_len (l := t.kids) (k := s.kids) h
      clear ih ht hs hk hks ha has h2 h3 hz hzs
      first | (simp_all; done) | (rw [hll (by omega)]; simp)
    refine cK (xS (cS (q0 (lP 1 tK rfl (q1 (cB ?_))))))
    have hll : t.kids.length = s.kids.length := by omega
    have hfin : termsF t s = allK (t.kids.map termsF) s.kids := by
      rw [termsF_eq]
      clear ih ht hs hk hks ha has h2 h3 hz hzs
      simp_all
    refine c_loop (X := Nat) (fun i => [(2, .pointer (some ⟨b2, 0, none⟩)), (3, .pointer (some ⟨b3, 0, none⟩)), (5, .int .i64 (i : Nat))]) (fun i w' => i ≤ t.kids.length ∧ (∀ j (h1 : j < t.kids.length) (h2 : j < s.kids.length), j < i → termsF t.kids[j] s.kids[j] = true) ∧ At M w' b2 0 [.int .u8 t.op, .string t.name, .string t.arg, .int .i64 t.n, .bool t.has, .int .u8 t.ann.op, .string t.ann.name, .int .i64 t.ann.n, akv, kv] ∧ At M w' b3 0 [.int .u8 s.op, .string s.name, .string s.arg, .int .i64 s.n, .bool s.has, .int .u8 s.ann.op, .string s.ann.name, .int .i64 s.ann.n, akvs, kvs] ∧ Sl M w' kv t.kids ∧ Sl M w' kvs s.kids ∧ Low M w' ∧ Below w.heap.size w w' ∧ w.heap.size ≤ w'.heap.size) (fun i => t.kids.length - i) (0) (s3 rfl rfl rfl) ?_ ?_
    · exact ⟨Nat.zero_le _, fun j _ _ h => by omega, h2, h3, hk, hks, Lw, hE, hB⟩
    clear h2 h3 hk hks ht hs ha has Lw hE hB
    rintro i w4 ⟨hi, htk, h2, h3, hk, hks, Lw, hE, hB⟩
    refine cS (q0 (lP 2 tK rfl ?_))
    refine lC (oD tK (h2.cell 9 _ rfl) rfl rfl rfl rfl rfl ?_)
    refine lC (o_len tK hk rfl rfl rfl rfl rfl ?_)
    refine lP 1 tK rfl (q1 ?_)
    refine cP _ rfl (fun c9 => ?_) (fun c9 => ?_)
    · refine cK (xS (cS (cB (cS ?_))))
      refine a_beg Ext rfl ?_
      intro w5 ew5
      replace hE := ew5.bl hE hB
      replace h2 := h2.Y ew5
      replace h3 := h3.Y ew5
      replace hk := hk.Y ew5
      replace hks := hks.Y ew5
      replace Lw := Lw.Y ew5
      replace hB := ew5.z hB
      have hS : Ext w5 w5 := ext_refl _
      have D_h2 := h2
      have D_h3 := h3
      have D_hk := hk
      have D_hks := hks
      refine a_p 0 tK rfl rfl rfl rfl (by kernel_rfl) i3 hS ?_
      refine a_ld 1 tK (fun _ hs => (D_h2.Y hs).cell 9 _ rfl) rfl rfl rfl rfl rfl rfl (by kernel_rfl) i3 hS ?_
      refine a_p 2 tK rfl rfl rfl rfl (by kernel_rfl) i3 hS ?_
      have hil : i < t.kids.length := by omega
      have hik : i < s.kids.length := by omega
      refine a_ixS 3 tK D_hk (gE hil) rfl rfl rfl rfl rfl rfl rfl rfl rfl rfl (by kernel_rfl) i4 hS ?_
      intro ebx eox eux hyx hX
      obtain ⟨akvx, kvx, rfl, opx, nmx, agx, n64x, hax, hkx⟩ := tm_open hyx
      replace hX : At M w5 ebx eox [.int .u8 t.kids[i].op, .string t.kids[i].name, .string t.kids[i].arg, .int .i64 t.kids[i].n, .bool t.kids[i].has, .int .u8 t.kids[i].ann.op, .string t.kids[i].ann.name, .int .i64 t.kids[i].ann.n, akvx, kvx] := hX
      refine a_lds 4 tK (fun _ hs j v hv => (hX.Y hs).cell j v hv) rfl rfl rfl rfl rfl rfl rfl (by kernel_rfl) i3 hS ?_
      refine a_p 5 tK rfl rfl rfl rfl (by kernel_rfl) i3 hS ?_
      refine a_ld 6 tK (fun _ hs => (D_h3.Y hs).cell 9 _ rfl) rfl rfl rfl rfl rfl rfl (by kernel_rfl) i3 hS ?_
      refine a_p 7 tK rfl rfl rfl rfl (by kernel_rfl) i3 hS ?_
      refine a_ixS 8 tK D_hks (gE hik) rfl rfl rfl rfl rfl rfl rfl rfl rfl rfl (by kernel_rfl) i4 hS ?_
      intro eby eoy euy hyy haty
      obtain ⟨akvy, kvy, rfl, opy, nmy, agy, n64y, hay, hky⟩ := tm_open hyy
      replace haty : At M w5 eby eoy [.int .u8 s.kids[i].op, .string s.kids[i].name, .string s.kids[i].arg, .int .i64 s.kids[i].n, .bool s.kids[i].has, .int .u8 s.kids[i].ann.op, .string s.kids[i].ann.name, .int .i64 s.kids[i].ann.n, akvy, kvy] := haty
      refine a_lds 9 tK (fun _ hs j v hv => (haty.Y hs).cell j v hv) rfl rfl rfl rfl rfl rfl rfl (by kernel_rfl) i3 hS ?_
      refine a_bar 10 rfl (by kernel_rfl) (by kernel_rfl) (oK fo62 rfl rfl rfl (ih _ (gM hil) _ M _ _ _ (hz.kid (gM hil)) (hzs.kid (gM hik)) hyx hyy Lw) ?_)
      rintro _ w6 ⟨rfl, ew6⟩
      replace hS := hS.then ew6
      replace hE := ew6.bl hE hB
      replace h2 := h2.Y ew6
      replace h3 := h3.Y ew6
      replace hk := hk.Y ew6
      replace hks := hks.Y ew6
      replace hyx := Rep.Y hyx ew6
      replace hax := Rep.Y hax ew6
      replace hkx := hkx.Y ew6
      replace hX := hX.Y ew6
      replace hyy := Rep.Y hyy ew6
      replace hay := Rep.Y hay ew6
      replace hky := hky.Y ew6
      replace haty := haty.Y ew6
      replace Lw := Lw.Y ew6
      replace hB := ew6.z hB
      refine a_p 11 tK rfl rfl rfl rfl (by kernel_rfl) i3 hS ?_
      refine a_end (by kernel_rfl) ?_
      refine xS ?_
      refine c_ifB _ rfl (fun c10 => ?_) (fun c10 => ?_)
      · refine q0 (lP 1 tK rfl (q1 (cR (xB (xR (xR (xB (xR (x1_ rfl rfl ?_)))))))))
        exact ⟨by rw [hfin, allK_no hil hik (by simpa using c10)], hE⟩
      refine cK (x_blk (xS (cG (lP 1 tK rfl ?_))))
      refine lC (o_ai rfl rfl rfl (by omega) rfl rfl ?_)
      refine lP 1 tK rfl (lN ?_)
      exact x_round (i + 1) (s3 rfl rfl (gN rfl (by omega))) ⟨by omega, fun j h1 h2 hj => (Nat.lt_succ_iff_lt_or_eq.1 hj).elim (htk j h1 h2) (fun e => by subst e; simpa using c10), h2, h3, hk, hks, Lw, hE, hB⟩ (by omega)
    refine c_exit (xE (xE (x_blkE (xS (q0 (lP 1 tK rfl (q1 (cR (x1_ rfl rfl ?_)))))))))
    obtain rfl : i = t.kids.length := by omega
    exact ⟨by rw [hfin, allK_yes hll htk], hE⟩
  refine lP 8 tK rfl (q1 (c_ifF rfl (cK (xS (cS (q0 (lP 1 tK rfl (q1 (cB ?_)))))))))
  have hll : t.kids.length = s.kids.length := by omega
  have hfin : termsF t s = allK (t.kids.map termsF) s.kids := by
    rw [termsF_eq]
    clear ih ht hs hk hks ha has h2 h3 hz hzs
    simp_all
  refine c_loop (X := Nat) (fun i => [(2, .pointer (some ⟨b2, 0, none⟩)), (3, .pointer (some ⟨b3, 0, none⟩)), (5, .int .i64 (i : Nat))]) (fun i w' => i ≤ t.kids.length ∧ (∀ j (h1 : j < t.kids.length) (h2 : j < s.kids.length), j < i → termsF t.kids[j] s.kids[j] = true) ∧ At M w' b2 0 [.int .u8 t.op, .string t.name, .string t.arg, .int .i64 t.n, .bool t.has, .int .u8 t.ann.op, .string t.ann.name, .int .i64 t.ann.n, akv, kv] ∧ At M w' b3 0 [.int .u8 s.op, .string s.name, .string s.arg, .int .i64 s.n, .bool s.has, .int .u8 s.ann.op, .string s.ann.name, .int .i64 s.ann.n, akvs, kvs] ∧ Sl M w' kv t.kids ∧ Sl M w' kvs s.kids ∧ Low M w' ∧ Below w.heap.size w w' ∧ w.heap.size ≤ w'.heap.size) (fun i => t.kids.length - i) (0) (s3 rfl rfl rfl) ?_ ?_
  · exact ⟨Nat.zero_le _, fun j _ _ h => by omega, h2, h3, hk, hks, Lw, hE, hB⟩
  clear h2 h3 hk hks ht hs ha has Lw hE hB
  rintro i w7 ⟨hi, htk, h2, h3, hk, hks, Lw, hE, hB⟩
  refine cS (q0 (lP 2 tK rfl ?_))
  refine lC (oD tK (h2.cell 9 _ rfl) rfl rfl rfl rfl rfl ?_)
  refine lC (o_len tK hk rfl rfl rfl rfl rfl ?_)
  refine lP 1 tK rfl (q1 ?_)
  refine cP _ rfl (fun c11 => ?_) (fun c11 => ?_)
  · refine cK (xS (cS (cB (cS ?_))))
    refine a_beg Ext rfl ?_
    intro w8 ew8
    replace hE := ew8.bl hE hB
    replace h2 := h2.Y ew8
    replace h3 := h3.Y ew8
    replace hk := hk.Y ew8
    replace hks := hks.Y ew8
    replace Lw := Lw.Y ew8
    replace hB := ew8.z hB
    have hS : Ext w8 w8 := ext_refl _
    have D_h2 := h2
    have D_h3 := h3
    have D_hk := hk
    have D_hks := hks
    refine a_p 0 tK rfl rfl rfl rfl (by kernel_rfl) i3 hS ?_
    refine a_ld 1 tK (fun _ hs => (D_h2.Y hs).cell 9 _ rfl) rfl rfl rfl rfl rfl rfl (by kernel_rfl) i3 hS ?_
    refine a_p 2 tK rfl rfl rfl rfl (by kernel_rfl) i3 hS ?_
    have hil : i < t.kids.length := by omega
    have hik : i < s.kids.length := by omega
    refine a_ixS 3 tK D_hk (gE hil) rfl rfl rfl rfl rfl rfl rfl rfl rfl rfl (by kernel_rfl) i4 hS ?_
    intro ebx eox eux hyx hX
    obtain ⟨akvx, kvx, rfl, opx, nmx, agx, n64x, hax, hkx⟩ := tm_open hyx
    replace hX : At M w8 ebx eox [.int .u8 t.kids[i].op, .string t.kids[i].name, .string t.kids[i].arg, .int .i64 t.kids[i].n, .bool t.kids[i].has, .int .u8 t.kids[i].ann.op, .string t.kids[i].ann.name, .int .i64 t.kids[i].ann.n, akvx, kvx] := hX
    refine a_lds 4 tK (fun _ hs j v hv => (hX.Y hs).cell j v hv) rfl rfl rfl rfl rfl rfl rfl (by kernel_rfl) i3 hS ?_
    refine a_p 5 tK rfl rfl rfl rfl (by kernel_rfl) i3 hS ?_
    refine a_ld 6 tK (fun _ hs => (D_h3.Y hs).cell 9 _ rfl) rfl rfl rfl rfl rfl rfl (by kernel_rfl) i3 hS ?_
    refine a_p 7 tK rfl rfl rfl rfl (by kernel_rfl) i3 hS ?_
    refine a_ixS 8 tK D_hks (gE hik) rfl rfl rfl rfl rfl rfl rfl rfl rfl rfl (by kernel_rfl) i4 hS ?_
    intro eby eoy euy hyy haty
    obtain ⟨akvy, kvy, rfl, opy, nmy, agy, n64y, hay, hky⟩ := tm_open hyy
    replace haty : At M w8 eby eoy [.int .u8 s.kids[i].op, .string s.kids[i].name, .string s.kids[i].arg, .int .i64 s.kids[i].n, .bool s.kids[i].has, .int .u8 s.kids[i].ann.op, .string s.kids[i].ann.name, .int .i64 s.kids[i].ann.n, akvy, kvy] := haty
    refine a_lds 9 tK (fun _ hs j v hv => (haty.Y hs).cell j v hv) rfl rfl rfl rfl rfl rfl rfl (by kernel_rfl) i3 hS ?_
    refine a_bar 10 rfl (by kernel_rfl) (by kernel_rfl) (oK fo62 rfl rfl rfl (ih _ (gM hil) _ M _ _ _ (hz.kid (gM hil)) (hzs.kid (gM hik)) hyx hyy Lw) ?_)
    rintro _ w9 ⟨rfl, ew9⟩
    replace hS := hS.then ew9
    replace hE := ew9.bl hE hB
    replace h2 := h2.Y ew9
    replace h3 := h3.Y ew9
    replace hk := hk.Y ew9
    replace hks := hks.Y ew9
    replace hyx := Rep.Y hyx ew9
    replace hax := Rep.Y hax ew9
    replace hkx := hkx.Y ew9
    replace hX := hX.Y ew9
    replace hyy := Rep.Y hyy ew9
    replace hay := Rep.Y hay ew9
    replace hky := hky.Y ew9
    replace haty := haty.Y ew9
    replace Lw := Lw.Y ew9
    replace hB := ew9.z hB
    refine a_p 11 tK rfl rfl rfl rfl (by kernel_rfl) i3 hS ?_
    refine a_end (by kernel_rfl) ?_
    refine xS ?_
    refine c_ifB _ rfl (fun c12 => ?_) (fun c12 => ?_)
    · refine q0 (lP 1 tK rfl (q1 (cR (xB (xR (xR (xB (xR (x1_ rfl rfl ?_)))))))))
      exact ⟨by rw [hfin, allK_no hil hik (by simpa using c12)], hE⟩
    refine cK (x_blk (xS (cG (lP 1 tK rfl ?_))))
    refine lC (o_ai rfl rfl rfl (by omega) rfl rfl ?_)
    refine lP 1 tK rfl (lN ?_)
    exact x_round (i + 1) (s3 rfl rfl (gN rfl (by omega))) ⟨by omega, fun j h1 h2 hj => (Nat.lt_succ_iff_lt_or_eq.1 hj).elim (htk j h1 h2) (fun e => by subst e; simpa using c12), h2, h3, hk, hks, Lw, hE, hB⟩ (by omega)
  refine c_exit (xE (xE (x_blkE (xS (q0 (lP 1 tK rfl (q1 (cR (x1_ rfl rfl ?_)))))))))
  obtain rfl : i = t.kids.length := by omega
  exact ⟨by rw [hfin, allK_yes hll htk], hE⟩
theorem refTerm_spec : ∀ (t : Tm) (b : List UInt8) (bb : Bool) (M : Nat → Prop) (w : World) (v u : Value), rightT t bb = true → Rep.R M w v t → Sl M w u b → Low M w → AnnS t → asz t ≤ 2000000 → nsz t ≤ 2000000 → Calls Try.prog 61 #[v, u] w (Ret fun r w' => (∃ x, r = .tuple #[x, .int .i64 (usz t : Nat)] ∧ Rep.R M w' x (loosM t b)) ∧ Ext w w') := by
  refine Tm.ind fun t ih => ?_
  intro b bb M w v u hr ht hb hlow0 hz has9 hsz
  have Lw := hlow0
  have hB := lR w.heap.size
  have hE := Below.refl w.heap.size w
  have hsub : ∀ b, M b → M b := fun _ h => h
  obtain ⟨akv, kv, rfl, op, nm, ag, n64, ha, hk⟩ := tm_open ht
  have hps := nsz_eq t
  have hkl := len_nsz t.kids
  have hzs := hz.self
  have hnote := right_note hr
  have hkx := fun k hk => (right_kids hr).2.1 k hk
  have hblt := hb.lt
  have hus := usz_asz t
  have ha1 := asz1_le t
  obtain ⟨A, hA⟩ : ∃ A : Ty, A = (bif t.has then loosF (canonF t.ann) b else t.ann) := ⟨_, rfl⟩
  refine cN (n := 66) Try.func61 rfl rfl rfl ?_
  refine q0 ?_
  refine lC (o_box rfl rfl rfl ?_)
  intro b2 w1 hb_b2 ew1 h2
  replace h2 : Box _ b2 59 [.int .u8 t.op, .string t.name, .string t.arg, .int .i64 t.n, .bool t.has, .int .u8 t.ann.op, .string t.ann.name, .int .i64 t.ann.n, akv, kv] := h2
  replace h2 := h2.at (nO Lw hb_b2)
  replace hE := ew1.bl hE hB
  replace ht := Rep.Y ht ew1
  replace ha := Rep.Y ha ew1
  replace hk := hk.Y ew1
  replace hb := hb.Y ew1
  replace Lw := Lw.Y ew1
  replace hB := ew1.z hB
  refine lC (o_new tK rfl rfl rfl ?_)
  intro b4 w2 qb4 ew2 hb4
  have sw2 := Stp.add ew2 Lw hB (lQ qb4.symm) hb4.lt
  have h4 : MB w.heap.size (Rw.Add M b4) w2 b4 59 [.int .u8 0, .string ⟨#[]⟩, .string ⟨#[]⟩, .int .i64 0, .bool false, .int .u8 0, .string ⟨#[]⟩, .int .i64 0, .slice none 0 0, .slice none 0 0] := MB.mk' hb4 qb4 hB
  replace hE := hE.trans sw2.below
  replace ht := Rep.sp ht sw2
  replace ha := Rep.sp ha sw2
  replace hk := hk.sp sw2
  replace hb := hb.sp sw2
  replace h2 := h2.sp sw2
  replace hsub := sw2.sb hsub
  replace Lw := sw2.low
  replace hB := sw2.z hB
  refine lP 1 tK rfl (q1 (q0 (lP 1 tK rfl ?_)))
  refine lC (oD tK (h2.cell 0 _ rfl) rfl rfl rfl rfl rfl ?_)
  refine lP 1 tK rfl ?_
  refine lC (oD tK (h2.cell 1 _ rfl) rfl rfl rfl rfl rfl ?_)
  refine lP 1 tK rfl ?_
  refine lC (oD tK (h2.cell 2 _ rfl) rfl rfl rfl rfl rfl ?_)
  refine lP 1 tK rfl ?_
  refine lC (oD tK (h2.cell 3 _ rfl) rfl rfl rfl rfl rfl ?_)
  refine lP 1 tK rfl ?_
  refine lC (oD tK (h2.cell 4 _ rfl) rfl rfl rfl rfl rfl ?_)
  refine lC (o_build (cells := [.int .u8 t.op, .string t.name, .string t.arg, .int .i64 t.n, .bool t.has, .int .u8 0, .string ⟨#[]⟩, .int .i64 0, .slice none 0 0, .slice none 0 0]) (css := [[.int .u8 t.op], [.string t.name], [.string t.arg], [.int .i64 t.n], [.bool t.has]]) bd59 rfl rfl rfl rfl rfl ?_)
  refine lC (o_new tK rfl rfl rfl ?_)
  intro b6 w3 qb6 ew3 hb6
  have ne_h4_h6 : b4 ≠ b6 := by have := h4.lt; omega
  have sw3 := Stp.add ew3 Lw hB (lQ qb6.symm) hb6.lt
  have h6 : MB w.heap.size (Rw.Add (Rw.Add M b4) b6) w3 b6 59 [.int .u8 0, .string ⟨#[]⟩, .string ⟨#[]⟩, .int .i64 0, .bool false, .int .u8 0, .string ⟨#[]⟩, .int .i64 0, .slice none 0 0, .slice none 0 0] := MB.mk' hb6 qb6 hB
  replace h4 := h4.sp sw3 (ew3.block b4 h4.lt)
  replace hE := hE.trans sw3.below
  replace ht := Rep.sp ht sw3
  replace ha := Rep.sp ha sw3
  replace hk := hk.sp sw3
  replace hb := hb.sp sw3
  replace h2 := h2.sp sw3
  replace hsub := sw3.sb hsub
  replace Lw := sw3.low
  replace hB := sw3.z hB
  refine lC (o_st tK h6.box rfl rfl rfl rfl (by intro u hu; simp [Value.cells] at hu; rcases hu with rfl | rfl | rfl | rfl | rfl | rfl | rfl | rfl | rfl | rfl <;> rfl) rfl rfl ?_)
  intro w4 hw4 qw4 bew4
  have uw4 : UpdB _ _ _ := ⟨qw4, bew4⟩
  have sw4 := uw4.sp h6.inM Lw h6.ge
  have frw4 := qw4.2
  replace h4 := h4.sp sw4 (frw4 b4 h4.lt ne_h4_h6)
  replace hE := hE.trans sw4.below
  replace ht := Rep.sp ht sw4
  replace ha := Rep.sp ha sw4
  replace hk := hk.sp sw4
  replace hb := hb.sp sw4
  replace h2 := h2.sp sw4
  replace hsub := sw4.sb hsub
  replace Lw := sw4.low
  replace hB := sw4.z hB
  replace h6 : MB w.heap.size _ w4 b6 _ [.int .u8 t.op, .string t.name, .string t.arg, .int .i64 t.n, .bool t.has, .int .u8 0, .string ⟨#[]⟩, .int .i64 0, .slice none 0 0, .slice none 0 0] := ⟨hw4, h6.inM, h6.ge⟩
  refine q1 (q0 (lP 1 tK rfl (q1 ?_)))
  refine c_cut (X := Value) (fun akv2 => [(1, u), (2, .pointer (some ⟨b2, 0, none⟩)), (4, .pointer (some ⟨b4, 0, none⟩)), (6, .pointer (some ⟨b6, 0, none⟩)), (7, .int .i64 ((asz1 t : Nat) : Int))]) (fun akv2 w' => MB w.heap.size (Rw.Add (Rw.Add M b4) b6) w' b4 59 [.int .u8 0, .string ⟨#[]⟩, .string ⟨#[]⟩, .int .i64 0, .bool false, .int .u8 0, .string ⟨#[]⟩, .int .i64 0, .slice none 0 0, .slice none 0 0] ∧ MB w.heap.size (Rw.Add (Rw.Add M b4) b6) w' b6 59 [.int .u8 t.op, .string t.name, .string t.arg, .int .i64 t.n, .bool t.has, .int .u8 A.op, .string A.name, .int .i64 A.n, akv2, .slice none 0 0] ∧ At (Rw.Add (Rw.Add M b4) b6) w' b2 0 [.int .u8 t.op, .string t.name, .string t.arg, .int .i64 t.n, .bool t.has, .int .u8 t.ann.op, .string t.ann.name, .int .i64 t.ann.n, akv, kv] ∧ Sl (Rw.Add (Rw.Add M b4) b6) w' kv t.kids ∧ Sl (Rw.Add (Rw.Add M b4) b6) w' u b ∧ Rep.R (Rw.Add (Rw.Add M b4) b6) w' (.agg #[.int .u8 A.op, .string A.name, .int .i64 A.n, akv2]) A ∧ Low (Rw.Add (Rw.Add M b4) b6) w' ∧ (∀ b, M b → (Rw.Add (Rw.Add M b4) b6) b) ∧ Below w.heap.size w w' ∧ w.heap.size ≤ w'.heap.size) ?_ ?_
  · refine q0 (lP 1 tK rfl ?_)
    refine lC (oD tK (h2.cell 4 _ rfl) rfl rfl rfl rfl rfl ?_)
    refine q1 ?_
    refine c_if _ rfl (fun c1 => ?_) (fun c1 => ?_)
    · refine cG (lP 1 tK rfl ?_)
      refine lC (oL tK (fun j v hv => (h2).mid 5 (sub := [.int .u8 t.ann.op, .string t.ann.name, .int .i64 t.ann.n, akv]) rfl j v hv) rfl rfl rfl rfl rfl rfl ?_)
      have hpc := psz_canon _ t.ann (lR _)
      obtain ⟨cs9, hcs9⟩ := shape_either (t := t.ann) (by rw [(hnote.1 c1).1]; rfl)
      refine lC (oK fo49 rfl rfl rfl (refCanon_all _ t.ann _ _ _ _ (lR _) hcs9 ha Lw hzs) ?_)
      rintro vhcn w5 ⟨hcn, ew5⟩
      replace h4 := h4.Y Lw hB ew5
      replace h6 := h6.Y Lw hB ew5
      replace hE := ew5.bl hE hB
      replace ht := Rep.Y ht ew5
      replace ha := Rep.Y ha ew5
      replace hk := hk.Y ew5
      replace hb := hb.Y ew5
      replace h2 := h2.Y ew5
      replace Lw := Lw.Y ew5
      replace hB := ew5.z hB
      refine lP 1 tK rfl ?_
      refine lC (oK fo55 rfl rfl rfl (refLoos_spec (canonF t.ann) b _ _ _ _ hcn hb Lw (by omega)) ?_)
      rintro _ w6 ⟨⟨vc, rfl, hc⟩, ew6⟩
      replace h4 := h4.Y Lw hB ew6
      replace h6 := h6.Y Lw hB ew6
      replace hE := ew6.bl hE hB
      replace ht := Rep.Y ht ew6
      replace ha := Rep.Y ha ew6
      replace hk := hk.Y ew6
      replace hb := hb.Y ew6
      replace h2 := h2.Y ew6
      replace hcn := Rep.Y hcn ew6
      replace Lw := Lw.Y ew6
      replace hB := ew6.z hB
      obtain ⟨kvc, rfl, opc, nmc, n64c, hkc⟩ := tO hc
      refine lP 4 tK rfl ?_
      refine lC (o_st tK h6.box rfl rfl rfl rfl (Rep.one hc) rfl rfl ?_)
      intro w7 hw7 qw7 bew7
      have uw7 : UpdB _ _ _ := ⟨qw7, bew7⟩
      have sw7 := uw7.sp h6.inM Lw h6.ge
      have frw7 := qw7.2
      replace h4 := h4.sp sw7 (frw7 b4 h4.lt ne_h4_h6)
      replace hE := hE.trans sw7.below
      replace ht := Rep.sp ht sw7
      replace ha := Rep.sp ha sw7
      replace hk := hk.sp sw7
      replace hb := hb.sp sw7
      replace h2 := h2.sp sw7
      replace hcn := Rep.sp hcn sw7
      replace hc := Rep.sp hc sw7
      replace hsub := sw7.sb hsub
      replace Lw := sw7.low
      replace hB := sw7.z hB
      replace h6 : MB w.heap.size _ w7 b6 _ [.int .u8 t.op, .string t.name, .string t.arg, .int .i64 t.n, .bool t.has, .int .u8 (loosF (canonF t.ann) b).op, .string (loosF (canonF t.ann) b).name, .int .i64 (loosF (canonF t.ann) b).n, kvc, .slice none 0 0] := ⟨hw7, h6.inM, h6.ge⟩
      refine lP 1 tK rfl (lN ?_)
      obtain rfl : A = loosF (canonF t.ann) b := by rw [hA, c1, cond_true]
      have hann := hc
      have hz1 : asz1 t = psz (canonF t.ann) := by unfold asz1; rw [c1]; rfl
      exact x_cut (kvc) (s5 rfl rfl rfl rfl (gN rfl (by rw [hz1]))) ⟨h4, h6, h2, hk, hb, hann, Lw, hsub, hE, hB⟩
    refine cK ?_
    have hf9 : t.has = false := by simpa using c1
    obtain rfl : A = .mk 0 ⟨#[]⟩ 0 [] := by rw [hA, hf9, cond_false, hnote.2 hf9]
    have hann : Rep.R (Rw.Add (Rw.Add M b4) b6) w4 (.agg #[.int .u8 0, .string ⟨#[]⟩, .int .i64 0, .slice none 0 0]) (Ty.mk 0 ⟨#[]⟩ 0 []) := ty_mk (by decide) (by decide) ⟨by decide, by decide⟩ sl_nil
    have hz1 : asz1 t = 0 := by unfold asz1; rw [hf9]; rfl
    exact x_cut (.slice none 0 0) (s5 rfl rfl rfl rfl (gN rfl (by rw [hz1]; rfl))) ⟨h4, h6, h2, hk, hb, hann, Lw, hsub, hE, hB⟩
  clear h4 h6 h2 hk hb ht ha Lw hsub hE hB
  rintro akv2 w80 ⟨h4, h6, h2, hk, hb, hann, Lw, hsub, hE, hB⟩
  refine cS (q0 (lP 1 tK rfl (q1 (cB ?_))))
  have d_ho_h4 : ∀ x, (.slice none 0 0 : Value).ownBlock = some x → x ≠ b4 := fun x hx => by simp [Value.ownBlock] at hx
  have d_ho_h6 : ∀ x, (.slice none 0 0 : Value).ownBlock = some x → x ≠ b6 := fun x hx => by simp [Value.ownBlock] at hx
  refine c_loop3 (X := Nat) (Y := Value) (Z := Nat → Prop) (fun i v9 M1 => [(1, u), (2, .pointer (some ⟨b2, 0, none⟩)), (4, .pointer (some ⟨b4, 0, none⟩)), (6, .pointer (some ⟨b6, 0, none⟩)), (7, .int .i64 ((asz1 t + uszs (t.kids.take i) : Nat) : Int)), (8, .int .i64 (i : Nat))]) (fun i v9 M1 w' => i ≤ t.kids.length ∧ OwnSl 59 w.heap.size M1 w' v9 ((loosMK t.kids (b.drop (asz1 t))).take i) ∧ MB w.heap.size M1 w' b4 59 [.int .u8 0, .string ⟨#[]⟩, .string ⟨#[]⟩, .int .i64 0, .bool false, .int .u8 0, .string ⟨#[]⟩, .int .i64 0, .slice none 0 0, .slice none 0 0] ∧ MB w.heap.size M1 w' b6 59 [.int .u8 t.op, .string t.name, .string t.arg, .int .i64 t.n, .bool t.has, .int .u8 A.op, .string A.name, .int .i64 A.n, akv2, v9] ∧ At M1 w' b2 0 [.int .u8 t.op, .string t.name, .string t.arg, .int .i64 t.n, .bool t.has, .int .u8 t.ann.op, .string t.ann.name, .int .i64 t.ann.n, akv, kv] ∧ (∀ x, (v9 : Value).ownBlock = some x → x ≠ b4) ∧ (∀ x, (v9 : Value).ownBlock = some x → x ≠ b6) ∧ Sl M1 w' kv t.kids ∧ Sl M1 w' u b ∧ Rep.R M1 w' (.agg #[.int .u8 A.op, .string A.name, .int .i64 A.n, akv2]) A ∧ Low M1 w' ∧ (∀ b, M b → M1 b) ∧ Below w.heap.size w w' ∧ w.heap.size ≤ w'.heap.size) (fun i v9 M1 => t.kids.length - i) (0) (.slice none 0 0) ((Rw.Add (Rw.Add M b4) b6)) (s6 rfl rfl rfl rfl (gN rfl (by simp [uszs])) rfl) ?_ ?_
  · exact ⟨Nat.zero_le _, own_nil, h4, h6, h2, d_ho_h4, d_ho_h6, hk, hb, hann, Lw, hsub, hE, hB⟩
  clear h4 h6 h2 hk hb hann Lw hsub hE hB d_ho_h4 d_ho_h6
  rintro i v9 M1 w8 ⟨hi, ho, h4, h6, h2, d_ho_h4, d_ho_h6, hk, hb, hann, Lw, hsub, hE, hB⟩
  have hue := uszs_le t i
  refine cS (q0 (lP 2 tK rfl ?_))
  refine lC (oD tK (h2.cell 9 _ rfl) rfl rfl rfl rfl rfl ?_)
  refine lC (o_len tK hk rfl rfl rfl rfl rfl ?_)
  refine lP 1 tK rfl (q1 ?_)
  refine cP _ rfl (fun c2 => ?_) (fun c2 => ?_)
  · refine cK (xS (cS (cB (cS ?_))))
    refine a_beg Ext rfl ?_
    intro w9 ew9
    replace ho := ho.Y Lw hB ew9
    replace h4 := h4.Y Lw hB ew9
    replace h6 := h6.Y Lw hB ew9
    replace hE := ew9.bl hE hB
    replace h2 := h2.Y ew9
    replace hk := hk.Y ew9
    replace hb := hb.Y ew9
    replace hann := Rep.Y hann ew9
    replace Lw := Lw.Y ew9
    replace hB := ew9.z hB
    have hS : Ext w9 w9 := ext_refl _
    have D_h4 := h4.box
    have D_h6 := h6.box
    have D_h2 := h2
    have D_hk := hk
    have D_hb := hb
    refine a_p 0 tK rfl rfl rfl rfl (by kernel_rfl) i3 hS ?_
    refine a_ld 1 tK (fun _ hs => (D_h2.Y hs).cell 9 _ rfl) rfl rfl rfl rfl rfl rfl (by kernel_rfl) i3 hS ?_
    refine a_p 2 tK rfl rfl rfl rfl (by kernel_rfl) i3 hS ?_
    have hik : i < t.kids.length := by omega
    have hp1 := nsz_get hik
    have hp2 := asz_kid (gM hik)
    have hue2 := uszs_le t (i + 1)
    have hue3 := uszs_take hik
    obtain ⟨bk, hbk⟩ := hkx _ (gM hik)
    refine a_ixS 3 tK D_hk (gE hik) rfl rfl rfl rfl rfl rfl rfl rfl rfl rfl (by kernel_rfl) i4 hS ?_
    intro ebx eox eux hyx hX
    obtain ⟨akvx, kvx, rfl, opx, nmx, agx, n64x, hax, hkx⟩ := tm_open hyx
    replace hX : At M1 w9 ebx eox [.int .u8 t.kids[i].op, .string t.kids[i].name, .string t.kids[i].arg, .int .i64 t.kids[i].n, .bool t.kids[i].has, .int .u8 t.kids[i].ann.op, .string t.kids[i].ann.name, .int .i64 t.kids[i].ann.n, akvx, kvx] := hX
    refine a_lds 4 tK (fun _ hs j v hv => (hX.Y hs).cell j v hv) rfl rfl rfl rfl rfl rfl rfl (by kernel_rfl) i3 hS ?_
    refine a_p 5 tK rfl rfl rfl rfl (by kernel_rfl) i3 hS ?_
    refine a_p 6 tK rfl rfl rfl rfl (by kernel_rfl) i3 hS ?_
    refine a_p 7 tK rfl rfl rfl rfl (by kernel_rfl) i3 hS ?_
    refine a_len 8 tK hb rfl rfl rfl rfl rfl rfl (by kernel_rfl) i3 hS ?_
    refine a_p 9 tK rfl rfl rfl rfl (by kernel_rfl) i3 hS ?_
    refine a_all [10, 15] (by kernel_rfl) rfl (all_cons (i := 10) rfl ?_ (all_cons (i := 15) rfl ?_ all_nil))
    · refine o_slt tK hb rfl rfl (j := min (asz1 t + uszs (t.kids.take i)) b.length) (by split <;> omega) (by omega) rfl rfl rfl rfl rfl rfl ?_
      intro bv2 hb2
      replace hb2 : Sl M1 w9 bv2 (b.drop (asz1 t + uszs (t.kids.take i))) := by
        by_cases h : asz1 t + uszs (t.kids.take i) ≤ b.length
        · rwa [Nat.min_eq_left h] at hb2
        · rw [Nat.min_eq_right (by omega)] at hb2
          rwa [List.drop_eq_nil_of_le (show b.length ≤ asz1 t + uszs (t.kids.take i) by omega), ← List.drop_eq_nil_of_le (lR b.length)]
      rw [← List.drop_drop] at hb2
      refine ⟨hS, ?_⟩
      refine a_all [11, 15] (by kernel_rfl) rfl (all_cons (i := 11) rfl ?_ (all_cons (i := 15) rfl ?_ all_nil))
      · refine oK fo61 rfl rfl rfl (ih _ (gM hik) _ bk _ _ _ _ hbk hyx hb2 Lw (hz.kid (gM hik)) (by omega) (by omega)) ?_
        rintro _ w10 ⟨⟨vq, rfl, hq⟩, ew10⟩
        replace hS := hS.then ew10
        replace ho := ho.Y Lw hB ew10
        replace h4 := h4.Y Lw hB ew10
        replace h6 := h6.Y Lw hB ew10
        replace hE := ew10.bl hE hB
        replace h2 := h2.Y ew10
        replace hk := hk.Y ew10
        replace hb := hb.Y ew10
        replace hann := Rep.Y hann ew10
        replace hyx := Rep.Y hyx ew10
        replace hax := Rep.Y hax ew10
        replace hkx := hkx.Y ew10
        replace hX := hX.Y ew10
        replace hb2 := hb2.Y ew10
        replace Lw := Lw.Y ew10
        replace hB := ew10.z hB
        refine ⟨hS, ?_⟩
        obtain ⟨akvq, kvq, rfl, opq, nmq, agq, n64q, haq, hkq⟩ := tm_open hq
        refine a_p 12 tK rfl rfl rfl rfl (by kernel_rfl) i3 hS ?_
        refine a_p 13 tK rfl rfl rfl rfl (by kernel_rfl) i3 hS ?_
        refine a_p 14 tK rfl rfl rfl rfl (by kernel_rfl) i3 hS ?_
        refine a_one 15 rfl (by kernel_rfl) (o_new tK rfl rfl rfl ?_)
        intro b9 w11 qb9 ew11 hb9
        have gS_b9 := Nat.le_trans hS.size (lQ qb9.symm)
        replace hS := hS.then ew11
        have ne_h4_h9 : b4 ≠ b9 := by have := h4.lt; omega
        have ne_h6_h9 : b6 ≠ b9 := by have := h6.lt; omega
        have d_ho_h9 : ∀ x, (v9 : Value).ownBlock = some x → x ≠ b9 := fun x hx => by have := (ho.lt x hx).2; omega
        have sw11 := Stp.add ew11 Lw hB (lQ qb9.symm) hb9.lt
        have h9 : MB w.heap.size (Rw.Add M1 b9) w11 b9 59 [.int .u8 0, .string ⟨#[]⟩, .string ⟨#[]⟩, .int .i64 0, .bool false, .int .u8 0, .string ⟨#[]⟩, .int .i64 0, .slice none 0 0, .slice none 0 0] := MB.mk' hb9 qb9 hB
        replace ho := ho.sp sw11 (fun x hx => ew11.block x (ho.lt x hx).2)
        replace h4 := h4.sp sw11 (ew11.block b4 h4.lt)
        replace h6 := h6.sp sw11 (ew11.block b6 h6.lt)
        replace hE := hE.trans sw11.below
        replace h2 := h2.sp sw11
        replace hk := hk.sp sw11
        replace hb := hb.sp sw11
        replace hann := Rep.sp hann sw11
        replace hyx := Rep.sp hyx sw11
        replace hax := Rep.sp hax sw11
        replace hkx := hkx.sp sw11
        replace hX := hX.sp sw11
        replace hq := Rep.sp hq sw11
        replace haq := Rep.sp haq sw11
        replace hkq := hkq.sp sw11
        replace hsub := sw11.sb hsub
        replace Lw := sw11.low
        replace hB := sw11.z hB
        refine ⟨hS, ?_⟩
        refine a_one 16 rfl (by kernel_rfl) (o_st tK h9.box rfl rfl rfl rfl (Rep.one hq) rfl rfl ?_)
        intro w12 hw12 qw12 bew12
        have uw12 : UpdB _ _ _ := ⟨qw12, bew12⟩
        have sw12 := uw12.sp h9.inM Lw h9.ge
        have frw12 := qw12.2
        replace hS := Below.trans hS (bew12 _ gS_b9)
        replace ho := ho.sp sw12 (fun x hx => frw12 x (ho.lt x hx).2 (d_ho_h9 x hx))
        replace h4 := h4.sp sw12 (frw12 b4 h4.lt ne_h4_h9)
        replace h6 := h6.sp sw12 (frw12 b6 h6.lt ne_h6_h9)
        replace hE := hE.trans sw12.below
        replace h2 := h2.sp sw12
        replace hk := hk.sp sw12
        replace hb := hb.sp sw12
        replace hann := Rep.sp hann sw12
        replace hyx := Rep.sp hyx sw12
        replace hax := Rep.sp hax sw12
        replace hkx := hkx.sp sw12
        replace hX := hX.sp sw12
        replace hq := Rep.sp hq sw12
        replace haq := Rep.sp haq sw12
        replace hkq := hkq.sp sw12
        replace hsub := sw12.sb hsub
        replace Lw := sw12.low
        replace hB := sw12.z hB
        refine ⟨hS, ?_⟩
        replace h9 : MB w.heap.size _ w12 b9 _ [.int .u8 (loosM t.kids[i] ((b.drop (asz1 t)).drop (uszs (t.kids.take i)))).op, .string (loosM t.kids[i] ((b.drop (asz1 t)).drop (uszs (t.kids.take i)))).name, .string (loosM t.kids[i] ((b.drop (asz1 t)).drop (uszs (t.kids.take i)))).arg, .int .i64 (loosM t.kids[i] ((b.drop (asz1 t)).drop (uszs (t.kids.take i)))).n, .bool (loosM t.kids[i] ((b.drop (asz1 t)).drop (uszs (t.kids.take i)))).has, .int .u8 (loosM t.kids[i] ((b.drop (asz1 t)).drop (uszs (t.kids.take i)))).ann.op, .string (loosM t.kids[i] ((b.drop (asz1 t)).drop (uszs (t.kids.take i)))).ann.name, .int .i64 (loosM t.kids[i] ((b.drop (asz1 t)).drop (uszs (t.kids.take i)))).ann.n, akvq, kvq] := ⟨hw12, h9.inM, h9.ge⟩
        refine a_p 17 tK rfl rfl rfl rfl (by kernel_rfl) i3 hS ?_
        refine a_end (by kernel_rfl) ?_
        refine xS (q0 (lP 1 tK rfl ?_))
        refine lC (oD tK (h6.cell 9 _ rfl) rfl rfl rfl rfl rfl ?_)
        refine lC (oL tK (fun j v hv => h9.cell j v hv) rfl rfl rfl rfl rfl rfl ?_)
        refine lC (o_bs tK rfl rfl rfl rfl rfl rfl rfl (sz1 (Rep.size hq)) rfl rfl rfl ?_)
        intro bw13 w13 qbw13 ew13 hbw13
        have nbw13 := nO Lw qbw13
        replace ho := ho.Y Lw hB ew13
        replace h4 := h4.Y Lw hB ew13
        replace h6 := h6.Y Lw hB ew13
        replace h9 := h9.Y Lw hB ew13
        replace hE := ew13.bl hE hB
        replace h2 := h2.Y ew13
        replace hk := hk.Y ew13
        replace hb := hb.Y ew13
        replace hann := Rep.Y hann ew13
        replace hyx := Rep.Y hyx ew13
        replace hax := Rep.Y hax ew13
        replace hkx := hkx.Y ew13
        replace hX := hX.Y ew13
        replace hq := Rep.Y hq ew13
        replace haq := Rep.Y haq ew13
        replace hkq := hkq.Y ew13
        replace Lw := Lw.Y ew13
        replace hB := ew13.z hB
        refine lC (o_app1 tK ho hbw13 nbw13 hq Lw hB rfl rfl rfl rfl rfl rfl rfl (by rw [List.length_take, loosMK_len]; omega) (by show (_ + _) * 136 ≤ _; rw [List.length_take, loosMK_len]; omega) rfl rfl ?_)
        intro vw14 w14 Mw14 hw14 sw14 frw14 blw14
        have zd_ho_h4 := d_ho_h4
        replace d_ho_h4 : ∀ x, (vw14 : Value).ownBlock = some x → x ≠ b4 := fun x hx => (blw14 x hx).elim (d_ho_h4 x) (fun h e => by have := h4.lt; omega)
        have zd_ho_h6 := d_ho_h6
        replace d_ho_h6 : ∀ x, (vw14 : Value).ownBlock = some x → x ≠ b6 := fun x hx => (blw14 x hx).elim (d_ho_h6 x) (fun h e => by have := h6.lt; omega)
        have zd_ho_h9 := d_ho_h9
        replace d_ho_h9 : ∀ x, (vw14 : Value).ownBlock = some x → x ≠ b9 := fun x hx => (blw14 x hx).elim (d_ho_h9 x) (fun h e => by have := h9.lt; omega)
        replace h4 := h4.sp sw14 (frw14 b4 h4.lt (fun e => zd_ho_h4 _ e.symm rfl))
        replace h6 := h6.sp sw14 (frw14 b6 h6.lt (fun e => zd_ho_h6 _ e.symm rfl))
        replace h9 := h9.sp sw14 (frw14 b9 h9.lt (fun e => zd_ho_h9 _ e.symm rfl))
        replace hE := hE.trans sw14.below
        replace h2 := h2.sp sw14
        replace hk := hk.sp sw14
        replace hb := hb.sp sw14
        replace hann := Rep.sp hann sw14
        replace hyx := Rep.sp hyx sw14
        replace hax := Rep.sp hax sw14
        replace hkx := hkx.sp sw14
        replace hX := hX.sp sw14
        replace hq := Rep.sp hq sw14
        replace haq := Rep.sp haq sw14
        replace hkq := hkq.sp sw14
        replace hsub := sw14.sb hsub
        replace Lw := sw14.low
        replace hB := sw14.z hB
        replace ho := hw14
        clear hw14
        refine lP 1 tK rfl ?_
        obtain ⟨av6, cv6, rfl, _⟩ := ho.val
        refine lC (o_st tK h6.box rfl rfl rfl rfl (by intro u hu; simp [Value.cells] at hu; subst hu; rfl) rfl rfl ?_)
        intro w15 hw15 qw15 bew15
        have uw15 : UpdB _ _ _ := ⟨qw15, bew15⟩
        have sw15 := uw15.sp h6.inM Lw h6.ge
        have frw15 := qw15.2
        replace ho := ho.sp sw15 (fun x hx => frw15 x (ho.lt x hx).2 (d_ho_h6 x hx))
        replace h4 := h4.sp sw15 (frw15 b4 h4.lt ne_h4_h6)
        replace h9 := h9.sp sw15 (frw15 b9 h9.lt ne_h6_h9.symm)
        replace hE := hE.trans sw15.below
        replace h2 := h2.sp sw15
        replace hk := hk.sp sw15
        replace hb := hb.sp sw15
        replace hann := Rep.sp hann sw15
        replace hyx := Rep.sp hyx sw15
        replace hax := Rep.sp hax sw15
        replace hkx := hkx.sp sw15
        replace hX := hX.sp sw15
        replace hq := Rep.sp hq sw15
        replace haq := Rep.sp haq sw15
        replace hkq := hkq.sp sw15
        replace hsub := sw15.sb hsub
        replace Lw := sw15.low
        replace hB := sw15.z hB
        replace h6 : MB w.heap.size _ w15 b6 _ [.int .u8 t.op, .string t.name, .string t.arg, .int .i64 t.n, .bool t.has, .int .u8 A.op, .string A.name, .int .i64 A.n, akv2, (.slice av6 ((loosMK t.kids (b.drop (asz1 t))).take i ++ [(loosM t.kids[i] ((b.drop (asz1 t)).drop (uszs (t.kids.take i))))]).length cv6)] := ⟨hw15, h6.inM, h6.ge⟩
        refine q1 (cG (lP 2 tK rfl ?_))
        refine lC (o_ai rfl rfl rfl (by omega) rfl rfl ?_)
        refine lP 1 tK rfl (q2 (xS (cG (lP 1 tK rfl ?_))))
        refine lC (o_ai rfl rfl rfl (by omega) rfl rfl ?_)
        refine lP 1 tK rfl (lN ?_)
        exact x_round3 (i + 1) ((.slice av6 ((loosMK t.kids (b.drop (asz1 t))).take i ++ [(loosM t.kids[i] ((b.drop (asz1 t)).drop (uszs (t.kids.take i))))]).length cv6)) (Mw14) (s6 rfl rfl rfl rfl (gN rfl (by rw [uszs_take hik]; omega)) (gN rfl (by omega))) ⟨by omega, by rw [take_loosMK hik]; exact ho, h4, h6, h2, d_ho_h4, d_ho_h6, hk, hb, hann, Lw, hsub, hE, hB⟩ (by omega)
      refine o_new tK rfl rfl rfl ?_
      intro b9 w16 qb9 ew16 hb9
      have gS_b9 := Nat.le_trans hS.size (lQ qb9.symm)
      replace hS := hS.then ew16
      have ne_h4_h9 : b4 ≠ b9 := by have := h4.lt; omega
      have ne_h6_h9 : b6 ≠ b9 := by have := h6.lt; omega
      have d_ho_h9 : ∀ x, (v9 : Value).ownBlock = some x → x ≠ b9 := fun x hx => by have := (ho.lt x hx).2; omega
      have sw16 := Stp.add ew16 Lw hB (lQ qb9.symm) hb9.lt
      have h9 : MB w.heap.size (Rw.Add M1 b9) w16 b9 59 [.int .u8 0, .string ⟨#[]⟩, .string ⟨#[]⟩, .int .i64 0, .bool false, .int .u8 0, .string ⟨#[]⟩, .int .i64 0, .slice none 0 0, .slice none 0 0] := MB.mk' hb9 qb9 hB
      replace ho := ho.sp sw16 (fun x hx => ew16.block x (ho.lt x hx).2)
      replace h4 := h4.sp sw16 (ew16.block b4 h4.lt)
      replace h6 := h6.sp sw16 (ew16.block b6 h6.lt)
      replace hE := hE.trans sw16.below
      replace h2 := h2.sp sw16
      replace hk := hk.sp sw16
      replace hb := hb.sp sw16
      replace hann := Rep.sp hann sw16
      replace hyx := Rep.sp hyx sw16
      replace hax := Rep.sp hax sw16
      replace hkx := hkx.sp sw16
      replace hX := hX.sp sw16
      replace hb2 := hb2.sp sw16
      replace hsub := sw16.sb hsub
      replace Lw := sw16.low
      replace hB := sw16.z hB
      refine ⟨hS, ?_⟩
      refine a_one 11 rfl (by kernel_rfl) (oK fo61 rfl rfl rfl (ih _ (gM hik) _ bk _ _ _ _ hbk hyx hb2 Lw (hz.kid (gM hik)) (by omega) (by omega)) ?_)
      rintro _ w17 ⟨⟨vq, rfl, hq⟩, ew17⟩
      replace hS := hS.then ew17
      replace ho := ho.Y Lw hB ew17
      replace h4 := h4.Y Lw hB ew17
      replace h6 := h6.Y Lw hB ew17
      replace h9 := h9.Y Lw hB ew17
      replace hE := ew17.bl hE hB
      replace h2 := h2.Y ew17
      replace hk := hk.Y ew17
      replace hb := hb.Y ew17
      replace hann := Rep.Y hann ew17
      replace hyx := Rep.Y hyx ew17
      replace hax := Rep.Y hax ew17
      replace hkx := hkx.Y ew17
      replace hX := hX.Y ew17
      replace hb2 := hb2.Y ew17
      replace Lw := Lw.Y ew17
      replace hB := ew17.z hB
      refine ⟨hS, ?_⟩
      obtain ⟨akvq, kvq, rfl, opq, nmq, agq, n64q, haq, hkq⟩ := tm_open hq
      refine a_p 12 tK rfl rfl rfl rfl (by kernel_rfl) i3 hS ?_
      refine a_p 13 tK rfl rfl rfl rfl (by kernel_rfl) i3 hS ?_
      refine a_p 14 tK rfl rfl rfl rfl (by kernel_rfl) i3 hS ?_
      refine a_one 16 rfl (by kernel_rfl) (o_st tK h9.box rfl rfl rfl rfl (Rep.one hq) rfl rfl ?_)
      intro w18 hw18 qw18 bew18
      have uw18 : UpdB _ _ _ := ⟨qw18, bew18⟩
      have sw18 := uw18.sp h9.inM Lw h9.ge
      have frw18 := qw18.2
      replace hS := Below.trans hS (bew18 _ gS_b9)
      replace ho := ho.sp sw18 (fun x hx => frw18 x (ho.lt x hx).2 (d_ho_h9 x hx))
      replace h4 := h4.sp sw18 (frw18 b4 h4.lt ne_h4_h9)
      replace h6 := h6.sp sw18 (frw18 b6 h6.lt ne_h6_h9)
      replace hE := hE.trans sw18.below
      replace h2 := h2.sp sw18
      replace hk := hk.sp sw18
      replace hb := hb.sp sw18
      replace hann := Rep.sp hann sw18
      replace hyx := Rep.sp hyx sw18
      replace hax := Rep.sp hax sw18
      replace hkx := hkx.sp sw18
      replace hX := hX.sp sw18
      replace hq := Rep.sp hq sw18
      replace haq := Rep.sp haq sw18
      replace hkq := hkq.sp sw18
      replace hsub := sw18.sb hsub
      replace Lw := sw18.low
      replace hB := sw18.z hB
      refine ⟨hS, ?_⟩
      replace h9 : MB w.heap.size _ w18 b9 _ [.int .u8 (loosM t.kids[i] ((b.drop (asz1 t)).drop (uszs (t.kids.take i)))).op, .string (loosM t.kids[i] ((b.drop (asz1 t)).drop (uszs (t.kids.take i)))).name, .string (loosM t.kids[i] ((b.drop (asz1 t)).drop (uszs (t.kids.take i)))).arg, .int .i64 (loosM t.kids[i] ((b.drop (asz1 t)).drop (uszs (t.kids.take i)))).n, .bool (loosM t.kids[i] ((b.drop (asz1 t)).drop (uszs (t.kids.take i)))).has, .int .u8 (loosM t.kids[i] ((b.drop (asz1 t)).drop (uszs (t.kids.take i)))).ann.op, .string (loosM t.kids[i] ((b.drop (asz1 t)).drop (uszs (t.kids.take i)))).ann.name, .int .i64 (loosM t.kids[i] ((b.drop (asz1 t)).drop (uszs (t.kids.take i)))).ann.n, akvq, kvq] := ⟨hw18, h9.inM, h9.ge⟩
      refine a_p 17 tK rfl rfl rfl rfl (by kernel_rfl) i3 hS ?_
      refine a_end (by kernel_rfl) ?_
      refine xS (q0 (lP 1 tK rfl ?_))
      refine lC (oD tK (h6.cell 9 _ rfl) rfl rfl rfl rfl rfl ?_)
      refine lC (oL tK (fun j v hv => h9.cell j v hv) rfl rfl rfl rfl rfl rfl ?_)
      refine lC (o_bs tK rfl rfl rfl rfl rfl rfl rfl (sz1 (Rep.size hq)) rfl rfl rfl ?_)
      intro bw19 w19 qbw19 ew19 hbw19
      have nbw19 := nO Lw qbw19
      replace ho := ho.Y Lw hB ew19
      replace h4 := h4.Y Lw hB ew19
      replace h6 := h6.Y Lw hB ew19
      replace h9 := h9.Y Lw hB ew19
      replace hE := ew19.bl hE hB
      replace h2 := h2.Y ew19
      replace hk := hk.Y ew19
      replace hb := hb.Y ew19
      replace hann := Rep.Y hann ew19
      replace hyx := Rep.Y hyx ew19
      replace hax := Rep.Y hax ew19
      replace hkx := hkx.Y ew19
      replace hX := hX.Y ew19
      replace hq := Rep.Y hq ew19
      replace haq := Rep.Y haq ew19
      replace hkq := hkq.Y ew19
      replace Lw := Lw.Y ew19
      replace hB := ew19.z hB
      refine lC (o_app1 tK ho hbw19 nbw19 hq Lw hB rfl rfl rfl rfl rfl rfl rfl (by rw [List.length_take, loosMK_len]; omega) (by show (_ + _) * 136 ≤ _; rw [List.length_take, loosMK_len]; omega) rfl rfl ?_)
      intro vw20 w20 Mw20 hw20 sw20 frw20 blw20
      have zd_ho_h4 := d_ho_h4
      replace d_ho_h4 : ∀ x, (vw20 : Value).ownBlock = some x → x ≠ b4 := fun x hx => (blw20 x hx).elim (d_ho_h4 x) (fun h e => by have := h4.lt; omega)
      have zd_ho_h6 := d_ho_h6
      replace d_ho_h6 : ∀ x, (vw20 : Value).ownBlock = some x → x ≠ b6 := fun x hx => (blw20 x hx).elim (d_ho_h6 x) (fun h e => by have := h6.lt; omega)
      have zd_ho_h9 := d_ho_h9
      replace d_ho_h9 : ∀ x, (vw20 : Value).ownBlock = some x → x ≠ b9 := fun x hx => (blw20 x hx).elim (d_ho_h9 x) (fun h e => by have := h9.lt; omega)
      replace h4 := h4.sp sw20 (frw20 b4 h4.lt (fun e => zd_ho_h4 _ e.symm rfl))
      replace h6 := h6.sp sw20 (frw20 b6 h6.lt (fun e => zd_ho_h6 _ e.symm rfl))
      replace h9 := h9.sp sw20 (frw20 b9 h9.lt (fun e => zd_ho_h9 _ e.symm rfl))
      replace hE := hE.trans sw20.below
      replace h2 := h2.sp sw20
      replace hk := hk.sp sw20
      replace hb := hb.sp sw20
      replace hann := Rep.sp hann sw20
      replace hyx := Rep.sp hyx sw20
      replace hax := Rep.sp hax sw20
      replace hkx := hkx.sp sw20
      replace hX := hX.sp sw20
      replace hq := Rep.sp hq sw20
      replace haq := Rep.sp haq sw20
      replace hkq := hkq.sp sw20
      replace hsub := sw20.sb hsub
      replace Lw := sw20.low
      replace hB := sw20.z hB
      replace ho := hw20
      clear hw20
      refine lP 1 tK rfl ?_
      obtain ⟨av6, cv6, rfl, _⟩ := ho.val
      refine lC (o_st tK h6.box rfl rfl rfl rfl (by intro u hu; simp [Value.cells] at hu; subst hu; rfl) rfl rfl ?_)
      intro w21 hw21 qw21 bew21
      have uw21 : UpdB _ _ _ := ⟨qw21, bew21⟩
      have sw21 := uw21.sp h6.inM Lw h6.ge
      have frw21 := qw21.2
      replace ho := ho.sp sw21 (fun x hx => frw21 x (ho.lt x hx).2 (d_ho_h6 x hx))
      replace h4 := h4.sp sw21 (frw21 b4 h4.lt ne_h4_h6)
      replace h9 := h9.sp sw21 (frw21 b9 h9.lt ne_h6_h9.symm)
      replace hE := hE.trans sw21.below
      replace h2 := h2.sp sw21
      replace hk := hk.sp sw21
      replace hb := hb.sp sw21
      replace hann := Rep.sp hann sw21
      replace hyx := Rep.sp hyx sw21
      replace hax := Rep.sp hax sw21
      replace hkx := hkx.sp sw21
      replace hX := hX.sp sw21
      replace hq := Rep.sp hq sw21
      replace haq := Rep.sp haq sw21
      replace hkq := hkq.sp sw21
      replace hsub := sw21.sb hsub
      replace Lw := sw21.low
      replace hB := sw21.z hB
      replace h6 : MB w.heap.size _ w21 b6 _ [.int .u8 t.op, .string t.name, .string t.arg, .int .i64 t.n, .bool t.has, .int .u8 A.op, .string A.name, .int .i64 A.n, akv2, (.slice av6 ((loosMK t.kids (b.drop (asz1 t))).take i ++ [(loosM t.kids[i] ((b.drop (asz1 t)).drop (uszs (t.kids.take i))))]).length cv6)] := ⟨hw21, h6.inM, h6.ge⟩
      refine q1 (cG (lP 2 tK rfl ?_))
      refine lC (o_ai rfl rfl rfl (by omega) rfl rfl ?_)
      refine lP 1 tK rfl (q2 (xS (cG (lP 1 tK rfl ?_))))
      refine lC (o_ai rfl rfl rfl (by omega) rfl rfl ?_)
      refine lP 1 tK rfl (lN ?_)
      exact x_round3 (i + 1) ((.slice av6 ((loosMK t.kids (b.drop (asz1 t))).take i ++ [(loosM t.kids[i] ((b.drop (asz1 t)).drop (uszs (t.kids.take i))))]).length cv6)) (Mw20) (s6 rfl rfl rfl rfl (gN rfl (by rw [uszs_take hik]; omega)) (gN rfl (by omega))) ⟨by omega, by rw [take_loosMK hik]; exact ho, h4, h6, h2, d_ho_h4, d_ho_h6, hk, hb, hann, Lw, hsub, hE, hB⟩ (by omega)
    refine o_new tK rfl rfl rfl ?_
    intro b9 w22 qb9 ew22 hb9
    have gS_b9 := Nat.le_trans hS.size (lQ qb9.symm)
    replace hS := hS.then ew22
    have ne_h4_h9 : b4 ≠ b9 := by have := h4.lt; omega
    have ne_h6_h9 : b6 ≠ b9 := by have := h6.lt; omega
    have d_ho_h9 : ∀ x, (v9 : Value).ownBlock = some x → x ≠ b9 := fun x hx => by have := (ho.lt x hx).2; omega
    have sw22 := Stp.add ew22 Lw hB (lQ qb9.symm) hb9.lt
    have h9 : MB w.heap.size (Rw.Add M1 b9) w22 b9 59 [.int .u8 0, .string ⟨#[]⟩, .string ⟨#[]⟩, .int .i64 0, .bool false, .int .u8 0, .string ⟨#[]⟩, .int .i64 0, .slice none 0 0, .slice none 0 0] := MB.mk' hb9 qb9 hB
    replace ho := ho.sp sw22 (fun x hx => ew22.block x (ho.lt x hx).2)
    replace h4 := h4.sp sw22 (ew22.block b4 h4.lt)
    replace h6 := h6.sp sw22 (ew22.block b6 h6.lt)
    replace hE := hE.trans sw22.below
    replace h2 := h2.sp sw22
    replace hk := hk.sp sw22
    replace hb := hb.sp sw22
    replace hann := Rep.sp hann sw22
    replace hyx := Rep.sp hyx sw22
    replace hax := Rep.sp hax sw22
    replace hkx := hkx.sp sw22
    replace hX := hX.sp sw22
    replace hsub := sw22.sb hsub
    replace Lw := sw22.low
    replace hB := sw22.z hB
    refine ⟨hS, ?_⟩
    refine a_one 10 rfl (by kernel_rfl) (o_slt tK hb rfl rfl (j := min (asz1 t + uszs (t.kids.take i)) b.length) (by split <;> omega) (by omega) rfl rfl rfl rfl rfl rfl ?_)
    intro bv2 hb2
    replace hb2 : Sl (Rw.Add M1 b9) w22 bv2 (b.drop (asz1 t + uszs (t.kids.take i))) := by
      by_cases h : asz1 t + uszs (t.kids.take i) ≤ b.length
      · rwa [Nat.min_eq_left h] at hb2
      · rw [Nat.min_eq_right (by omega)] at hb2
        rwa [List.drop_eq_nil_of_le (show b.length ≤ asz1 t + uszs (t.kids.take i) by omega), ← List.drop_eq_nil_of_le (lR b.length)]
    rw [← List.drop_drop] at hb2
    refine ⟨hS, ?_⟩
    refine a_one 11 rfl (by kernel_rfl) (oK fo61 rfl rfl rfl (ih _ (gM hik) _ bk _ _ _ _ hbk hyx hb2 Lw (hz.kid (gM hik)) (by omega) (by omega)) ?_)
    rintro _ w23 ⟨⟨vq, rfl, hq⟩, ew23⟩
    replace hS := hS.then ew23
    replace ho := ho.Y Lw hB ew23
    replace h4 := h4.Y Lw hB ew23
    replace h6 := h6.Y Lw hB ew23
    replace h9 := h9.Y Lw hB ew23
    replace hE := ew23.bl hE hB
    replace h2 := h2.Y ew23
    replace hk := hk.Y ew23
    replace hb := hb.Y ew23
    replace hann := Rep.Y hann ew23
    replace hyx := Rep.Y hyx ew23
    replace hax := Rep.Y hax ew23
    replace hkx := hkx.Y ew23
    replace hX := hX.Y ew23
    replace hb2 := hb2.Y ew23
    replace Lw := Lw.Y ew23
    replace hB := ew23.z hB
    refine ⟨hS, ?_⟩
    obtain ⟨akvq, kvq, rfl, opq, nmq, agq, n64q, haq, hkq⟩ := tm_open hq
    refine a_p 12 tK rfl rfl rfl rfl (by kernel_rfl) i3 hS ?_
    refine a_p 13 tK rfl rfl rfl rfl (by kernel_rfl) i3 hS ?_
    refine a_p 14 tK rfl rfl rfl rfl (by kernel_rfl) i3 hS ?_
    refine a_one 16 rfl (by kernel_rfl) (o_st tK h9.box rfl rfl rfl rfl (Rep.one hq) rfl rfl ?_)
    intro w24 hw24 qw24 bew24
    have uw24 : UpdB _ _ _ := ⟨qw24, bew24⟩
    have sw24 := uw24.sp h9.inM Lw h9.ge
    have frw24 := qw24.2
    replace hS := Below.trans hS (bew24 _ gS_b9)
    replace ho := ho.sp sw24 (fun x hx => frw24 x (ho.lt x hx).2 (d_ho_h9 x hx))
    replace h4 := h4.sp sw24 (frw24 b4 h4.lt ne_h4_h9)
    replace h6 := h6.sp sw24 (frw24 b6 h6.lt ne_h6_h9)
    replace hE := hE.trans sw24.below
    replace h2 := h2.sp sw24
    replace hk := hk.sp sw24
    replace hb := hb.sp sw24
    replace hann := Rep.sp hann sw24
    replace hyx := Rep.sp hyx sw24
    replace hax := Rep.sp hax sw24
    replace hkx := hkx.sp sw24
    replace hX := hX.sp sw24
    replace hq := Rep.sp hq sw24
    replace haq := Rep.sp haq sw24
    replace hkq := hkq.sp sw24
    replace hsub := sw24.sb hsub
    replace Lw := sw24.low
    replace hB := sw24.z hB
    refine ⟨hS, ?_⟩
    replace h9 : MB w.heap.size _ w24 b9 _ [.int .u8 (loosM t.kids[i] ((b.drop (asz1 t)).drop (uszs (t.kids.take i)))).op, .string (loosM t.kids[i] ((b.drop (asz1 t)).drop (uszs (t.kids.take i)))).name, .string (loosM t.kids[i] ((b.drop (asz1 t)).drop (uszs (t.kids.take i)))).arg, .int .i64 (loosM t.kids[i] ((b.drop (asz1 t)).drop (uszs (t.kids.take i)))).n, .bool (loosM t.kids[i] ((b.drop (asz1 t)).drop (uszs (t.kids.take i)))).has, .int .u8 (loosM t.kids[i] ((b.drop (asz1 t)).drop (uszs (t.kids.take i)))).ann.op, .string (loosM t.kids[i] ((b.drop (asz1 t)).drop (uszs (t.kids.take i)))).ann.name, .int .i64 (loosM t.kids[i] ((b.drop (asz1 t)).drop (uszs (t.kids.take i)))).ann.n, akvq, kvq] := ⟨hw24, h9.inM, h9.ge⟩
    refine a_p 17 tK rfl rfl rfl rfl (by kernel_rfl) i3 hS ?_
    refine a_end (by kernel_rfl) ?_
    refine xS (q0 (lP 1 tK rfl ?_))
    refine lC (oD tK (h6.cell 9 _ rfl) rfl rfl rfl rfl rfl ?_)
    refine lC (oL tK (fun j v hv => h9.cell j v hv) rfl rfl rfl rfl rfl rfl ?_)
    refine lC (o_bs tK rfl rfl rfl rfl rfl rfl rfl (sz1 (Rep.size hq)) rfl rfl rfl ?_)
    intro bw25 w25 qbw25 ew25 hbw25
    have nbw25 := nO Lw qbw25
    replace ho := ho.Y Lw hB ew25
    replace h4 := h4.Y Lw hB ew25
    replace h6 := h6.Y Lw hB ew25
    replace h9 := h9.Y Lw hB ew25
    replace hE := ew25.bl hE hB
    replace h2 := h2.Y ew25
    replace hk := hk.Y ew25
    replace hb := hb.Y ew25
    replace hann := Rep.Y hann ew25
    replace hyx := Rep.Y hyx ew25
    replace hax := Rep.Y hax ew25
    replace hkx := hkx.Y ew25
    replace hX := hX.Y ew25
    replace hq := Rep.Y hq ew25
    replace haq := Rep.Y haq ew25
    replace hkq := hkq.Y ew25
    replace Lw := Lw.Y ew25
    replace hB := ew25.z hB
    refine lC (o_app1 tK ho hbw25 nbw25 hq Lw hB rfl rfl rfl rfl rfl rfl rfl (by rw [List.length_take, loosMK_len]; omega) (by show (_ + _) * 136 ≤ _; rw [List.length_take, loosMK_len]; omega) rfl rfl ?_)
    intro vw26 w26 Mw26 hw26 sw26 frw26 blw26
    have zd_ho_h4 := d_ho_h4
    replace d_ho_h4 : ∀ x, (vw26 : Value).ownBlock = some x → x ≠ b4 := fun x hx => (blw26 x hx).elim (d_ho_h4 x) (fun h e => by have := h4.lt; omega)
    have zd_ho_h6 := d_ho_h6
    replace d_ho_h6 : ∀ x, (vw26 : Value).ownBlock = some x → x ≠ b6 := fun x hx => (blw26 x hx).elim (d_ho_h6 x) (fun h e => by have := h6.lt; omega)
    have zd_ho_h9 := d_ho_h9
    replace d_ho_h9 : ∀ x, (vw26 : Value).ownBlock = some x → x ≠ b9 := fun x hx => (blw26 x hx).elim (d_ho_h9 x) (fun h e => by have := h9.lt; omega)
    replace h4 := h4.sp sw26 (frw26 b4 h4.lt (fun e => zd_ho_h4 _ e.symm rfl))
    replace h6 := h6.sp sw26 (frw26 b6 h6.lt (fun e => zd_ho_h6 _ e.symm rfl))
    replace h9 := h9.sp sw26 (frw26 b9 h9.lt (fun e => zd_ho_h9 _ e.symm rfl))
    replace hE := hE.trans sw26.below
    replace h2 := h2.sp sw26
    replace hk := hk.sp sw26
    replace hb := hb.sp sw26
    replace hann := Rep.sp hann sw26
    replace hyx := Rep.sp hyx sw26
    replace hax := Rep.sp hax sw26
    replace hkx := hkx.sp sw26
    replace hX := hX.sp sw26
    replace hq := Rep.sp hq sw26
    replace haq := Rep.sp haq sw26
    replace hkq := hkq.sp sw26
    replace hsub := sw26.sb hsub
    replace Lw := sw26.low
    replace hB := sw26.z hB
    replace ho := hw26
    clear hw26
    refine lP 1 tK rfl ?_
    obtain ⟨av6, cv6, rfl, _⟩ := ho.val
    refine lC (o_st tK h6.box rfl rfl rfl rfl (by intro u hu; simp [Value.cells] at hu; subst hu; rfl) rfl rfl ?_)
    intro w27 hw27 qw27 bew27
    have uw27 : UpdB _ _ _ := ⟨qw27, bew27⟩
    have sw27 := uw27.sp h6.inM Lw h6.ge
    have frw27 := qw27.2
    replace ho := ho.sp sw27 (fun x hx => frw27 x (ho.lt x hx).2 (d_ho_h6 x hx))
    replace h4 := h4.sp sw27 (frw27 b4 h4.lt ne_h4_h6)
    replace h9 := h9.sp sw27 (frw27 b9 h9.lt ne_h6_h9.symm)
    replace hE := hE.trans sw27.below
    replace h2 := h2.sp sw27
    replace hk := hk.sp sw27
    replace hb := hb.sp sw27
    replace hann := Rep.sp hann sw27
    replace hyx := Rep.sp hyx sw27
    replace hax := Rep.sp hax sw27
    replace hkx := hkx.sp sw27
    replace hX := hX.sp sw27
    replace hq := Rep.sp hq sw27
    replace haq := Rep.sp haq sw27
    replace hkq := hkq.sp sw27
    replace hsub := sw27.sb hsub
    replace Lw := sw27.low
    replace hB := sw27.z hB
    replace h6 : MB w.heap.size _ w27 b6 _ [.int .u8 t.op, .string t.name, .string t.arg, .int .i64 t.n, .bool t.has, .int .u8 A.op, .string A.name, .int .i64 A.n, akv2, (.slice av6 ((loosMK t.kids (b.drop (asz1 t))).take i ++ [(loosM t.kids[i] ((b.drop (asz1 t)).drop (uszs (t.kids.take i))))]).length cv6)] := ⟨hw27, h6.inM, h6.ge⟩
    refine q1 (cG (lP 2 tK rfl ?_))
    refine lC (o_ai rfl rfl rfl (by omega) rfl rfl ?_)
    refine lP 1 tK rfl (q2 (xS (cG (lP 1 tK rfl ?_))))
    refine lC (o_ai rfl rfl rfl (by omega) rfl rfl ?_)
    refine lP 1 tK rfl (lN ?_)
    exact x_round3 (i + 1) ((.slice av6 ((loosMK t.kids (b.drop (asz1 t))).take i ++ [(loosM t.kids[i] ((b.drop (asz1 t)).drop (uszs (t.kids.take i))))]).length cv6)) (Mw26) (s6 rfl rfl rfl rfl (gN rfl (by rw [uszs_take hik]; omega)) (gN rfl (by omega))) ⟨by omega, by rw [take_loosMK hik]; exact ho, h4, h6, h2, d_ho_h4, d_ho_h6, hk, hb, hann, Lw, hsub, hE, hB⟩ (by omega)
  refine c_exit (xE (xE (x_blkE (xS (q0 ?_)))))
  refine lC (oL tK (fun j v hv => h6.cell j v hv) rfl rfl rfl rfl rfl rfl ?_)
  refine lP 1 tK rfl ?_
  obtain rfl : i = t.kids.length := by omega
  rw [List.take_of_length_le (lQ (loosMK_len _ _))] at ho
  obtain ⟨av, cv, rfl, hcv⟩ := ho.val
  have hml : (loosMK t.kids (b.drop (asz1 t))).length = t.kids.length := loosMK_len _ _
  refine lC (o_st tK h4.box rfl rfl rfl rfl (by intro u hu; simp [Value.cells] at hu; have := Rep.one hann; simp [Value.cells] at this; rcases hu with rfl | rfl | rfl | rfl | rfl | rfl | rfl | rfl | rfl | rfl <;> first | rfl | exact this.2.2.2) rfl rfl ?_)
  intro w28 hw28 qw28 bew28
  have uw28 : UpdB _ _ _ := ⟨qw28, bew28⟩
  have sw28 := uw28.sp h4.inM Lw h4.ge
  have frw28 := qw28.2
  replace ho := ho.sp sw28 (fun x hx => frw28 x (ho.lt x hx).2 (d_ho_h4 x hx))
  replace h6 := h6.sp sw28 (frw28 b6 h6.lt ne_h4_h6.symm)
  replace hE := hE.trans sw28.below
  replace h2 := h2.sp sw28
  replace hk := hk.sp sw28
  replace hb := hb.sp sw28
  replace hann := Rep.sp hann sw28
  replace hsub := sw28.sb hsub
  replace Lw := sw28.low
  replace hB := sw28.z hB
  replace h4 : MB w.heap.size _ w28 b4 _ [.int .u8 t.op, .string t.name, .string t.arg, .int .i64 t.n, .bool t.has, .int .u8 A.op, .string A.name, .int .i64 A.n, akv2, .slice av (loosMK t.kids (b.drop (asz1 t))).length cv] := ⟨hw28, h4.inM, h4.ge⟩
  refine lP 1 tK rfl (q1 (cR ?_))
  refine x_ret2st tK (fun j v hv => h4.cell j v hv) rfl rfl rfl rfl rfl rfl ?_
  have hfin := tm_mk (has := t.has) op nm ag n64 (Rep.wk hann (fun b _ h => hsub b h)) (ho.sl (by omega) hlow0 hsub)
  have hct : Tm.mk t.op t.name t.arg t.n t.has A (loosMK t.kids (b.drop (asz1 t))) = loosM t b := by rw [loosM_eq, hA]
  rw [hct] at hfin
  have hue : usz t = asz1 t + uszs (t.kids.take t.kids.length) := by rw [usz_eq, List.take_of_length_le (lR _)]; rfl
  rw [hue]
  exact ⟨⟨_, rfl, hfin⟩, hE⟩
open Go Rw Go.RowKit
set_option maxRecDepth 100000
theorem copyM_own : ∀ (t : Tm) (M : Nat → Prop) (w : World) (v : Value), Rep.R M w v t → Low M w → AnnS t → nsz t ≤ 2000000 → Calls Try.prog 89 #[v] w (Ret fun r w' => OTm 25 59 w.heap.size w' t r (Plus NoM w w') ∧ Ext w w') := by
  refine Tm.ind fun t ih => ?_
  intro M w v ht hlow0 hz hsz
  have Lw := hlow0
  have hB := lR w.heap.size
  have hE := Below.refl w.heap.size w
  have hsub : ∀ b, M b → M b := fun _ h => h
  obtain ⟨akv, kv, rfl, op, nm, ag, n64, ha, hk⟩ := tm_open ht
  have hps := nsz_eq t
  have hkl := len_nsz t.kids
  have hzs := hz.self
  refine cN (n := 26) Try.func89 rfl rfl rfl ?_
  refine q0 ?_
  refine lC (o_box rfl rfl rfl ?_)
  intro b1 w1 qb1 ew1 hb1
  have sw1 := Stp.add ew1 Lw hB (lQ qb1.symm) hb1.lt
  have h1 : MB w.heap.size (Rw.Add M b1) w1 b1 59 [.int .u8 t.op, .string t.name, .string t.arg, .int .i64 t.n, .bool t.has, .int .u8 t.ann.op, .string t.ann.name, .int .i64 t.ann.n, akv, kv] := MB.mk' hb1 qb1 hB
  replace hE := hE.trans sw1.below
  replace ht := Rep.sp ht sw1
  replace ha := Rep.sp ha sw1
  replace hk := hk.sp sw1
  replace hsub := sw1.sb hsub
  replace Lw := sw1.low
  replace hB := sw1.z hB
  refine lC (o_new tK rfl rfl rfl ?_)
  intro b2 w2 qb2 ew2 hb2
  have ne_h1_h2 : b1 ≠ b2 := by have := h1.lt; omega
  have sw2 := Stp.add ew2 Lw hB (lQ qb2.symm) hb2.lt
  have h2 : MB w.heap.size (Rw.Add (Rw.Add M b1) b2) w2 b2 59 [.int .u8 0, .string ⟨#[]⟩, .string ⟨#[]⟩, .int .i64 0, .bool false, .int .u8 0, .string ⟨#[]⟩, .int .i64 0, .slice none 0 0, .slice none 0 0] := MB.mk' hb2 qb2 hB
  replace h1 := h1.sp sw2 (ew2.block b1 h1.lt)
  replace hE := hE.trans sw2.below
  replace ht := Rep.sp ht sw2
  replace ha := Rep.sp ha sw2
  replace hk := hk.sp sw2
  replace hsub := sw2.sb hsub
  replace Lw := sw2.low
  replace hB := sw2.z hB
  refine q1 (q0 (lP 1 tK rfl (q1 (cS (q0 (lP 1 tK rfl ?_))))))
  refine lC (oD tK (h1.cell 9 _ rfl) rfl rfl rfl rfl rfl ?_)
  refine lC (o_len tK hk rfl rfl rfl rfl rfl ?_)
  refine lP 1 tK rfl (q1 (cB ?_))
  have d_ho_h1 : ∀ x, (.slice none 0 0 : Value).ownBlock = some x → x ≠ b1 := fun x hx => by simp [Value.ownBlock] at hx
  have d_ho_h2 : ∀ x, (.slice none 0 0 : Value).ownBlock = some x → x ≠ b2 := fun x hx => by simp [Value.ownBlock] at hx
  have d_hO_h1 : ∀ x, NoM x → x ≠ b1 := fun _ h => h.elim
  have d_hO_h2 : ∀ x, NoM x → x ≠ b2 := fun _ h => h.elim
  have dd_ho_hO : ∀ x y, (.slice none 0 0 : Value).ownBlock = some x → NoM y → x ≠ y := fun _ _ _ h => h.elim
  refine c_loop5 (X := Nat) (Y := Value) (Z := Nat → Prop) (U := List (VN 9)) (V := Nat → Prop) (fun i v M1 us F => [(1, .pointer (some ⟨b1, 0, none⟩)), (2, .pointer (some ⟨b2, 0, none⟩)), (3, v), (7, kv), (8, .int .i64 (t.kids.length : Int)), (9, .int .i64 (i : Nat))]) (fun i v M1 us F w' => i ≤ t.kids.length ∧ OwnSl 59 w.heap.size M1 w' v us ∧ OMs 25 59 w.heap.size w' us (t.kids.take i) F ∧ MB w.heap.size M1 w' b1 59 [.int .u8 t.op, .string t.name, .string t.arg, .int .i64 t.n, .bool t.has, .int .u8 t.ann.op, .string t.ann.name, .int .i64 t.ann.n, akv, kv] ∧ MB w.heap.size M1 w' b2 59 [.int .u8 0, .string ⟨#[]⟩, .string ⟨#[]⟩, .int .i64 0, .bool false, .int .u8 0, .string ⟨#[]⟩, .int .i64 0, .slice none 0 0, .slice none 0 0] ∧ (∀ x, (v : Value).ownBlock = some x → x ≠ b1) ∧ (∀ x, (v : Value).ownBlock = some x → x ≠ b2) ∧ (∀ x, F x → x ≠ b1) ∧ (∀ x, F x → x ≠ b2) ∧ (∀ x y, (v : Value).ownBlock = some x → F y → x ≠ y) ∧ Rep.R M1 w' (.agg #[.int .u8 t.ann.op, .string t.ann.name, .int .i64 t.ann.n, akv]) t.ann ∧ Sl M1 w' kv t.kids ∧ Low M1 w' ∧ (∀ b, M b → M1 b) ∧ Below w.heap.size w w' ∧ w.heap.size ≤ w'.heap.size) (fun i v M1 us F => t.kids.length - i) (0) (.slice none 0 0) ((Rw.Add (Rw.Add M b1) b2)) ([]) (NoM) (s6 rfl rfl rfl rfl rfl rfl) ?_ ?_
  · exact ⟨Nat.zero_le _, own_nil, oms_nil (fun _ h => h.elim), h1, h2, d_ho_h1, d_ho_h2, d_hO_h1, d_hO_h2, dd_ho_hO, ha, hk, Lw, hsub, hE, hB⟩
  clear ht ha hk h1 h2 Lw hsub hE hB d_ho_h1 d_ho_h2 d_hO_h1 d_hO_h2 dd_ho_hO
  rintro i v M1 us F w3 ⟨hi, ho, hO, h1, h2, d_ho_h1, d_ho_h2, d_hO_h1, d_hO_h2, dd_ho_hO, ha, hk, Lw, hsub, hE, hB⟩
  have hul := hO.len
  rw [List.length_take] at hul
  refine q0 (lP 1 tK rfl (q1 (cS ?_)))
  refine cP _ rfl (fun c1 => ?_) (fun c1 => ?_)
  · refine cK (xS (cS (cB (q0 ?_))))
    have hik : i < t.kids.length := by omega
    have hp1 := nsz_get hik
    refine lC (o_ixS tK hk (gE hik) rfl rfl rfl rfl rfl rfl rfl rfl rfl ?_)
    intro ebx eox eux hyx hX
    obtain ⟨akvx, kvx, rfl, opx, nmx, agx, n64x, hax, hkx⟩ := tm_open hyx
    replace hX : At M1 w3 ebx eox [.int .u8 t.kids[i].op, .string t.kids[i].name, .string t.kids[i].arg, .int .i64 t.kids[i].n, .bool t.kids[i].has, .int .u8 t.kids[i].ann.op, .string t.kids[i].ann.name, .int .i64 t.kids[i].ann.n, akvx, kvx] := hX
    refine lC (oL tK (fun j v hv => hX.cell j v hv) rfl rfl rfl rfl rfl rfl ?_)
    refine lC (o_new tK rfl rfl rfl ?_)
    intro b5 w4 qb5 ew4 hb5
    have nb5 := nO Lw qb5
    refine lC (o_st tK hb5 rfl rfl rfl rfl (Rep.one hyx) rfl rfl ?_)
    intro w5 h5 uw5 bew5
    have ew5 : Ext w3 w5 := ew4.trans (bew5 _ (lQ qb5.symm))
    replace ho := ho.Y Lw hB ew5
    replace hO := hO.Y Lw hB ew5
    replace h1 := h1.Y Lw hB ew5
    replace h2 := h2.Y Lw hB ew5
    replace hE := ew5.bl hE hB
    replace ha := Rep.Y ha ew5
    replace hk := hk.Y ew5
    replace hyx := Rep.Y hyx ew5
    replace hax := Rep.Y hax ew5
    replace hkx := hkx.Y ew5
    replace hX := hX.Y ew5
    replace Lw := Lw.Y ew5
    replace hB := ew5.z hB
    replace h5 : Box w5 b5 59 [.int .u8 t.kids[i].op, .string t.kids[i].name, .string t.kids[i].arg, .int .i64 t.kids[i].n, .bool t.kids[i].has, .int .u8 t.kids[i].ann.op, .string t.kids[i].ann.name, .int .i64 t.kids[i].ann.n, akvx, kvx] := h5
    replace h5 := h5.at nb5
    refine q1 (cG (lP 1 tK rfl ?_))
    refine lC (oL tK (fun j v hv => h5.cell j v hv) rfl rfl rfl rfl rfl rfl ?_)
    have l_h1 := h1.lt
    have l_h2 := h2.lt
    have l_ho := ho.lt
    have l_hO := hO.lt
    have hB0 := hB
    refine lC (oK fo89 rfl rfl rfl (ih _ (gM hik) _ _ _ hyx Lw (hz.kid (gM hik)) (by omega)) ?_)
    rintro vr w6 ⟨hr, ew6⟩
    replace hr := hr.ge hB0
    have hGl : ∀ c, Plus NoM w5 w6 c → w5.heap.size ≤ c := fun c h => h.elim (fun h => h.elim) (fun h => h.1)
    replace ho := ho.Y Lw hB ew6
    replace hO := hO.Y Lw hB ew6
    replace h1 := h1.Y Lw hB ew6
    replace h2 := h2.Y Lw hB ew6
    replace hE := ew6.bl hE hB
    replace ha := Rep.Y ha ew6
    replace hk := hk.Y ew6
    replace hyx := Rep.Y hyx ew6
    replace hax := Rep.Y hax ew6
    replace hkx := hkx.Y ew6
    replace hX := hX.Y ew6
    replace h5 := h5.Y ew6
    replace Lw := Lw.Y ew6
    replace hB := ew6.z hB
    generalize Plus NoM w5 w6 = G at hr hGl
    have d_hr_h1 : ∀ x, G x → x ≠ b1 := fun x hx => by have := hGl x hx; omega
    have d_hr_h2 : ∀ x, G x → x ≠ b2 := fun x hx => by have := hGl x hx; omega
    have dd_ho_hr : ∀ x y, (v : Value).ownBlock = some x → G y → x ≠ y := fun x y hx hy => by have := hGl y hy; have := (l_ho x hx).2; omega
    have dd_hr_hO : ∀ c, G c → ¬ F c := fun c hg hf => by have := hGl c hg; have := (l_hO c hf).2; omega
    refine lC (o_bs tK rfl rfl rfl rfl rfl rfl rfl (sz1 hr.size) rfl rfl rfl ?_)
    intro bw7 w7 qbw7 ew7 hbw7
    have nbw7 := nO Lw qbw7
    replace ho := ho.Y Lw hB ew7
    replace hO := hO.Y Lw hB ew7
    replace h1 := h1.Y Lw hB ew7
    replace h2 := h2.Y Lw hB ew7
    replace hr := hr.Y Lw hB ew7
    replace hE := ew7.bl hE hB
    replace ha := Rep.Y ha ew7
    replace hk := hk.Y ew7
    replace hyx := Rep.Y hyx ew7
    replace hax := Rep.Y hax ew7
    replace hkx := hkx.Y ew7
    replace hX := hX.Y ew7
    replace h5 := h5.Y ew7
    replace Lw := Lw.Y ew7
    replace hB := ew7.z hB
    refine lC (o_app1 tK ho hbw7 nbw7 hr.vn Lw hB rfl rfl rfl rfl rfl rfl rfl (by omega) (by show (_ + _) * 136 ≤ _; omega) rfl rfl ?_)
    intro vw8 w8 Mw8 hw8 sw8 frw8 blw8
    have zd_ho_h1 := d_ho_h1
    replace d_ho_h1 : ∀ x, (vw8 : Value).ownBlock = some x → x ≠ b1 := fun x hx => (blw8 x hx).elim (d_ho_h1 x) (fun h e => by have := h1.lt; omega)
    have zd_ho_h2 := d_ho_h2
    replace d_ho_h2 : ∀ x, (vw8 : Value).ownBlock = some x → x ≠ b2 := fun x hx => (blw8 x hx).elim (d_ho_h2 x) (fun h e => by have := h2.lt; omega)
    have zdd_ho_hO := dd_ho_hO
    replace dd_ho_hO : ∀ x y, (vw8 : Value).ownBlock = some x → F y → x ≠ y := fun x y hx hy => (blw8 x hx).elim (fun h => dd_ho_hO x y h hy) (fun h e => by have := (hO.lt y hy).2; omega)
    have zdd_ho_hr := dd_ho_hr
    replace dd_ho_hr : ∀ x y, (vw8 : Value).ownBlock = some x → G y → x ≠ y := fun x y hx hy => (blw8 x hx).elim (fun h => dd_ho_hr x y h hy) (fun h e => by have := (hr.lt y hy).2; omega)
    replace hO := hO.sp sw8 (fun x hx => frw8 x (hO.lt x hx).2 (fun e => zdd_ho_hO x x e.symm hx rfl))
    replace h1 := h1.sp sw8 (frw8 b1 h1.lt (fun e => zd_ho_h1 _ e.symm rfl))
    replace h2 := h2.sp sw8 (frw8 b2 h2.lt (fun e => zd_ho_h2 _ e.symm rfl))
    replace hr := hr.sp sw8 (fun x hx => frw8 x (hr.lt x hx).2 (fun e => zdd_ho_hr x x e.symm hx rfl))
    replace hE := hE.trans sw8.below
    replace ha := Rep.sp ha sw8
    replace hk := hk.sp sw8
    replace hyx := Rep.sp hyx sw8
    replace hax := Rep.sp hax sw8
    replace hkx := hkx.sp sw8
    replace hX := hX.sp sw8
    replace h5 := h5.sp sw8
    replace hsub := sw8.sb hsub
    replace Lw := sw8.low
    replace hB := sw8.z hB
    replace ho := hw8
    clear hw8
    refine lP 1 tK rfl (q2 (xS (cG ?_)))
    refine lC (o_ai rfl rfl rfl (by omega) rfl rfl ?_)
    refine lP 1 tK rfl (lN ?_)
    have hO2 := hO.app hr dd_hr_hO
    exact x_round5 (i + 1) (vw8) (Mw8) (us ++ [⟨vr⟩]) (fun c => F c ∨ G c) (s6 rfl rfl rfl rfl rfl rfl) ⟨by omega, ho, by rw [List.take_succ_eq_append_getElem hik]; exact hO2, h1, h2, d_ho_h1, d_ho_h2, (fun x hx => hx.elim (d_hO_h1 x) (d_hr_h1 x)), (fun x hx => hx.elim (d_hO_h2 x) (d_hr_h2 x)), (fun x y hx hy => hy.elim (dd_ho_hO x y hx) (dd_ho_hr x y hx)), ha, hk, Lw, hsub, hE, hB⟩ (by omega)
  refine c_exit (xE (xE (x_blkE (xS (q0 (lP 2 tK rfl ?_))))))
  refine lC (oL tK (fun j v hv => (h1.box).mid 5 (sub := [.int .u8 t.ann.op, .string t.ann.name, .int .i64 t.ann.n, akv]) rfl j v hv) rfl rfl rfl rfl rfl rfl ?_)
  obtain rfl : i = t.kids.length := by omega
  rw [List.take_of_length_le (lR _)] at hO
  have l_h1 := h1.lt
  have l_h2 := h2.lt
  have l_ho := ho.lt
  have l_hO := hO.lt
  have hB0 := hB
  refine lC (oK fo114 rfl rfl rfl (typed_own t.ann _ _ _ ha Lw hzs) ?_)
  rintro vc w9 ⟨hc, ew9⟩
  replace hc := hc.ge hB0
  have hGl : ∀ c, Plus NoM w3 w9 c → w3.heap.size ≤ c := fun c h => h.elim (fun h => h.elim) (fun h => h.1)
  replace ho := ho.Y Lw hB ew9
  replace hO := hO.Y Lw hB ew9
  replace h1 := h1.Y Lw hB ew9
  replace h2 := h2.Y Lw hB ew9
  replace hE := ew9.bl hE hB
  replace ha := Rep.Y ha ew9
  replace hk := hk.Y ew9
  replace Lw := Lw.Y ew9
  replace hB := ew9.z hB
  generalize Plus NoM w3 w9 = GA at hc hGl
  have d_hc_h1 : ∀ x, GA x → x ≠ b1 := fun x hx => by have := hGl x hx; omega
  have d_hc_h2 : ∀ x, GA x → x ≠ b2 := fun x hx => by have := hGl x hx; omega
  have dd_ho_hc : ∀ x y, (v : Value).ownBlock = some x → GA y → x ≠ y := fun x y hx hy => by have := hGl y hy; have := (l_ho x hx).2; omega
  have dd_hc_hO : ∀ c, GA c → ¬ F c := fun c hg hf => by have := hGl c hg; have := (l_hO c hf).2; omega
  obtain ⟨kvc, usc, Hc, rfl, _, _, _, _, _, _, _⟩ := oty_open hc
  refine lP 1 tK rfl ?_
  obtain ⟨av, cv, rfl, hcv⟩ := ho.val
  refine lC (o_st tK h1.box rfl rfl rfl rfl (by simp [Value.cells, Value.oneCell']) rfl rfl ?_)
  intro w10 hw10 qw10 bew10
  have uw10 : UpdB _ _ _ := ⟨qw10, bew10⟩
  have sw10 := uw10.sp h1.inM Lw h1.ge
  have frw10 := qw10.2
  replace ho := ho.sp sw10 (fun x hx => frw10 x (ho.lt x hx).2 (d_ho_h1 x hx))
  replace hO := hO.sp sw10 (fun x hx => frw10 x (hO.lt x hx).2 (d_hO_h1 x hx))
  replace h2 := h2.sp sw10 (frw10 b2 h2.lt ne_h1_h2.symm)
  replace hc := hc.sp sw10 (fun x hx => frw10 x (hc.lt x hx).2 (d_hc_h1 x hx))
  replace hE := hE.trans sw10.below
  replace ha := Rep.sp ha sw10
  replace hk := hk.sp sw10
  replace hsub := sw10.sb hsub
  replace Lw := sw10.low
  replace hB := sw10.z hB
  replace h1 : MB w.heap.size _ w10 b1 _ [.int .u8 t.op, .string t.name, .string t.arg, .int .i64 t.n, .bool t.has, .int .u8 t.ann.op, .string t.ann.name, .int .i64 t.ann.n, akv, (.slice av us.length cv)] := ⟨hw10, h1.inM, h1.ge⟩
  refine lP 1 tK rfl ?_
  refine lC (o_st tK h1.box rfl rfl rfl rfl hc.one rfl rfl ?_)
  intro w11 hw11 qw11 bew11
  have uw11 : UpdB _ _ _ := ⟨qw11, bew11⟩
  have sw11 := uw11.sp h1.inM Lw h1.ge
  have frw11 := qw11.2
  replace ho := ho.sp sw11 (fun x hx => frw11 x (ho.lt x hx).2 (d_ho_h1 x hx))
  replace hO := hO.sp sw11 (fun x hx => frw11 x (hO.lt x hx).2 (d_hO_h1 x hx))
  replace h2 := h2.sp sw11 (frw11 b2 h2.lt ne_h1_h2.symm)
  replace hc := hc.sp sw11 (fun x hx => frw11 x (hc.lt x hx).2 (d_hc_h1 x hx))
  replace hE := hE.trans sw11.below
  replace ha := Rep.sp ha sw11
  replace hk := hk.sp sw11
  replace hsub := sw11.sb hsub
  replace Lw := sw11.low
  replace hB := sw11.z hB
  replace h1 : MB w.heap.size _ w11 b1 _ [.int .u8 t.op, .string t.name, .string t.arg, .int .i64 t.n, .bool t.has, .int .u8 t.ann.op, .string t.ann.name, .int .i64 t.ann.n, kvc, (.slice av us.length cv)] := ⟨hw11, h1.inM, h1.ge⟩
  refine q1 (q0 ?_)
  refine lC (oL tK (fun j v hv => h1.cell j v hv) rfl rfl rfl rfl rfl rfl ?_)
  refine lC (o_st tK h2.box rfl rfl rfl rfl (by intro u hu; simp [Value.cells] at hu; have := hc.one; simp [Value.cells] at this; rcases hu with rfl | rfl | rfl | rfl | rfl | rfl | rfl | rfl | rfl | rfl <;> first | rfl | exact this.2.2.2) rfl rfl ?_)
  intro w12 hw12 qw12 bew12
  have uw12 : UpdB _ _ _ := ⟨qw12, bew12⟩
  have sw12 := uw12.sp h2.inM Lw h2.ge
  have frw12 := qw12.2
  replace ho := ho.sp sw12 (fun x hx => frw12 x (ho.lt x hx).2 (d_ho_h2 x hx))
  replace hO := hO.sp sw12 (fun x hx => frw12 x (hO.lt x hx).2 (d_hO_h2 x hx))
  replace h1 := h1.sp sw12 (frw12 b1 h1.lt ne_h1_h2)
  replace hc := hc.sp sw12 (fun x hx => frw12 x (hc.lt x hx).2 (d_hc_h2 x hx))
  replace hE := hE.trans sw12.below
  replace ha := Rep.sp ha sw12
  replace hk := hk.sp sw12
  replace hsub := sw12.sb hsub
  replace Lw := sw12.low
  replace hB := sw12.z hB
  replace h2 : MB w.heap.size _ w12 b2 _ [.int .u8 t.op, .string t.name, .string t.arg, .int .i64 t.n, .bool t.has, .int .u8 t.ann.op, .string t.ann.name, .int .i64 t.ann.n, kvc, (.slice av us.length cv)] := ⟨hw12, h2.inM, h2.ge⟩
  refine q1 (cR ?_)
  refine x_ret1s tK (fun j v hv => h2.cell j v hv) rfl rfl rfl rfl rfl ?_
  have hfin := otm_fin (has := t.has) op nm ag n64 (by omega) hc ho hO dd_ho_hO dd_ho_hc dd_hc_hO
  rw [← tm_eta] at hfin
  exact ⟨hfin, hE⟩
open Go Rw Go.RowKit
set_option maxRecDepth 100000
theorem term_own : ∀ (t : Tm) (b : List UInt8) (bb : Bool) (M : Nat → Prop) (w : World) (B : Nat) (v bv : Value) (F : Nat → Prop) (bl : Nat), rightT t bb = true → OTm 25 59 B w t v F → (∀ c, F c → M c) → MB B M w bl 87 [bv] → ¬ F bl → Sl M w bv b → Low M w → B ≤ w.heap.size → AnnS t → nsz t ≤ 2000000 → Calls Try.prog 88 #[.pointer (some ⟨bl, 0, none⟩), v] w (Ret fun r w' => ∃ M' F' bv', OTm 25 59 B w' (loosM t b) r F' ∧ (∀ c, F' c → M' c ∧ (F c ∨ w.heap.size ≤ c)) ∧ MB B M' w' bl 87 [bv'] ∧ Sl M' w' bv' (b.drop (usz t)) ∧ Stp B M M' w w' ∧ Kept w w' (Out (Rw.Add F bl) w)) := by
  refine Tm.ind fun t ih => ?_
  intro b bb M w B v bv F bl hr0 ht hF hl hbl hb Lw hB hz hsz
  have hps := nsz_eq t
  have hkl := len_nsz t.kids
  have hnote := right_note hr0
  have hkx := (right_kids hr0).2.1
  have hzs := hz.self
  have hpc := psz_canon _ t.ann (lR _)
  obtain ⟨_, _, _, op, nm, ag, n64, _, _⟩ := tm_open (ht.rep (M := NoM) (fun _ _ h => h))
  obtain ⟨A, hAA⟩ : ∃ A : Ty, A = (bif t.has then loosF (canonF t.ann) b else t.ann) := ⟨_, rfl⟩
  have hT : Stp B M M w w := Stp.refl Lw
  have hfr : Kept w w (Out (Rw.Add F bl) w) := Kept.refl (fun x hx => hx.1)
  obtain ⟨akv, kv, us, H, FA, rfl, hoa, hkn, hr, hO, hH, hA⟩ := otm_open ht
  have hkF := hr.inM
  replace hr := hr.keepV (M' := M) (fun b hb => hF b (hr.inM b hb)) (fun _ _ _ _ _ => rfl)
  have hF1 : ∀ c, H c → M c := fun c hc => hF c (hH c hc).1
  have hFn : ∀ c, H c → F c ∨ w.heap.size ≤ c := fun c hc => .inl (hH c hc).1
  have hul := hO.len
  have dd_hr_hO : ∀ x y, kv.ownBlock = some x → H y → x ≠ y := fun x y hx hy e => (hH y hy).2 (e ▸ hx)
  have dd_hr_hfr : ∀ x y, kv.ownBlock = some x → Out (Rw.Add F bl) w y → x ≠ y := fun x y hx hy e => hy.2 (.inl (e ▸ hkF x hx))
  have d_hr_hl : ∀ x, kv.ownBlock = some x → x ≠ bl := fun x hx e => hbl (e ▸ hkF x hx)
  have d_hO_hl : ∀ x, H x → x ≠ bl := fun x hx e => hbl (e ▸ (hH x hx).1)
  have d_hfr_hl : ∀ x, Out (Rw.Add F bl) w x → x ≠ bl := fun x hx e => hx.2 (.inr e)
  have lbl0 := hl.lt
  have dd_hr_hoa : ∀ x y, kv.ownBlock = some x → FA y → x ≠ y := fun x y hx hy e => (hA y hy).2.1 (e ▸ hx)
  have dd_hO_hoa : ∀ x y, H x → FA y → x ≠ y := fun x y hx hy e => (hA y hy).2.2 (e ▸ hx)
  have d_hoa_hl : ∀ x, FA x → x ≠ bl := fun x hx e => hbl (e ▸ (hA x hx).1)
  refine cN (n := 32) Try.func88 rfl rfl rfl ?_
  refine q0 ?_
  refine lC (o_box rfl rfl rfl ?_)
  intro b3 w1 qb3 ew1 hb3
  have d_hr_h3 : ∀ x, (kv : Value).ownBlock = some x → x ≠ b3 := fun x hx => by have := (hr.lt x hx).2; omega
  have d_hO_h3 : ∀ x, H x → x ≠ b3 := fun x hx => by have := (hO.lt x hx).2; omega
  have d_hfr_h3 : ∀ x, (Out (Rw.Add F bl) w) x → x ≠ b3 := fun x hx => by have := (hfr.lt x hx).2; omega
  have ne_hl_h3 : bl ≠ b3 := by have := hl.lt; omega
  have d_hoa_h3 : ∀ x, FA x → x ≠ b3 := fun x hx => by have := (hoa.lt x hx).2; omega
  have sw1 := Stp.add ew1 Lw hB (lQ qb3.symm) hb3.lt
  have h3 : MB B (Rw.Add M b3) w1 b3 59 [.int .u8 t.op, .string t.name, .string t.arg, .int .i64 t.n, .bool t.has, .int .u8 t.ann.op, .string t.ann.name, .int .i64 t.ann.n, akv, kv] := MB.mk' hb3 qb3 hB
  replace hT := hT.then sw1
  replace hr := hr.sp sw1 (fun x hx => ew1.block x (hr.lt x hx).2)
  replace hO := hO.sp sw1 (fun x hx => ew1.block x (hO.lt x hx).2)
  replace hfr := hfr.sp sw1 (fun x hx => ew1.block x (hfr.lt x hx).2)
  replace hl := hl.sp sw1 (ew1.block bl hl.lt)
  replace hoa := hoa.sp sw1 (fun x hx => ew1.block x (hoa.lt x hx).2)
  replace hb := hb.sp sw1
  replace hF1 := fun b h => sw1.sub b (hF1 b h)
  replace Lw := sw1.low
  replace hB := sw1.z hB
  refine lC (o_new tK rfl rfl rfl ?_)
  intro b4 w2 qb4 ew2 hb4
  have d_hr_h4 : ∀ x, (kv : Value).ownBlock = some x → x ≠ b4 := fun x hx => by have := (hr.lt x hx).2; omega
  have d_hO_h4 : ∀ x, H x → x ≠ b4 := fun x hx => by have := (hO.lt x hx).2; omega
  have d_hfr_h4 : ∀ x, (Out (Rw.Add F bl) w) x → x ≠ b4 := fun x hx => by have := (hfr.lt x hx).2; omega
  have ne_hl_h4 : bl ≠ b4 := by have := hl.lt; omega
  have d_hoa_h4 : ∀ x, FA x → x ≠ b4 := fun x hx => by have := (hoa.lt x hx).2; omega
  have ne_h3_h4 : b3 ≠ b4 := by have := h3.lt; omega
  have sw2 := Stp.add ew2 Lw hB (lQ qb4.symm) hb4.lt
  have h4 : MB B (Rw.Add (Rw.Add M b3) b4) w2 b4 59 [.int .u8 0, .string ⟨#[]⟩, .string ⟨#[]⟩, .int .i64 0, .bool false, .int .u8 0, .string ⟨#[]⟩, .int .i64 0, .slice none 0 0, .slice none 0 0] := MB.mk' hb4 qb4 hB
  replace hT := hT.then sw2
  replace hr := hr.sp sw2 (fun x hx => ew2.block x (hr.lt x hx).2)
  replace hO := hO.sp sw2 (fun x hx => ew2.block x (hO.lt x hx).2)
  replace hfr := hfr.sp sw2 (fun x hx => ew2.block x (hfr.lt x hx).2)
  replace hl := hl.sp sw2 (ew2.block bl hl.lt)
  replace hoa := hoa.sp sw2 (fun x hx => ew2.block x (hoa.lt x hx).2)
  replace h3 := h3.sp sw2 (ew2.block b3 h3.lt)
  replace hb := hb.sp sw2
  replace hF1 := fun b h => sw2.sub b (hF1 b h)
  replace Lw := sw2.low
  replace hB := sw2.z hB
  refine q1 ?_
  refine c_cut4 (X := Nat → Prop) (Y := Nat → Prop) (Z := Value) (U := Value) (fun M1 FQ bv akv2 => [(0, .pointer (some ⟨bl, 0, none⟩)), (3, .pointer (some ⟨b3, 0, none⟩)), (4, .pointer (some ⟨b4, 0, none⟩))]) (fun M1 FQ bv akv2 w' => OTy 25 B w' A (.agg #[.int .u8 A.op, .string A.name, .int .i64 A.n, akv2]) FQ ∧ (∀ c, FQ c → M1 c) ∧ (∀ c, FQ c → F c ∨ w.heap.size ≤ c) ∧ OwnSl 59 B M1 w' kv us ∧ OMs 25 59 B w' us t.kids H ∧ (∀ c, H c → M1 c) ∧ Kept w w' (Out (Rw.Add F bl) w) ∧ Stp B M M1 w w' ∧ Low M1 w' ∧ B ≤ w'.heap.size ∧ MB B M1 w' bl 87 [bv] ∧ Sl M1 w' bv (b.drop (asz1 t)) ∧ MB B M1 w' b3 59 [.int .u8 t.op, .string t.name, .string t.arg, .int .i64 t.n, .bool t.has, .int .u8 A.op, .string A.name, .int .i64 A.n, akv2, kv] ∧ MB B M1 w' b4 59 [.int .u8 0, .string ⟨#[]⟩, .string ⟨#[]⟩, .int .i64 0, .bool false, .int .u8 0, .string ⟨#[]⟩, .int .i64 0, .slice none 0 0, .slice none 0 0] ∧ (∀ x y, kv.ownBlock = some x → FQ y → x ≠ y) ∧ (∀ x y, H x → FQ y → x ≠ y) ∧ (∀ x, FQ x → x ≠ bl) ∧ (∀ x, FQ x → x ≠ b3) ∧ (∀ x, FQ x → x ≠ b4)) ?_ ?_
  · refine q0 (lP 1 tK rfl ?_)
    refine lC (oD tK (h3.cell 4 _ rfl) rfl rfl rfl rfl rfl ?_)
    refine q1 ?_
    refine c_if _ rfl (fun c1 => ?_) (fun c1 => ?_)
    · refine cG (lP 2 tK rfl ?_)
      refine lC (oL tK (fun j v hv => (h3.box).mid 5 (sub := [.int .u8 t.ann.op, .string t.ann.name, .int .i64 t.ann.n, akv]) rfl j v hv) rfl rfl rfl rfl rfl rfl ?_)
      have hsz00 := hT.upd.1
      have l_hr := hr.lt
      have l_hO := hO.lt
      have l_hfr := hfr.lt
      have l_hoa := hoa.lt
      have l_hl := hl.lt
      have l_h3 := h3.lt
      have l_h4 := h4.lt
      refine lC (oK fo43 rfl rfl rfl (Canon_own t.ann NoM _ _ (hoa.rep (M := NoM) (fun _ _ h => h)) (low_noM _) hzs) ?_)
      rintro vc w3 ⟨hc, ew3⟩
      rw [show (rightB t.ann || rowB t.ann) = true by rw [(hnote.1 c1).1]; rfl] at hc
      replace hc : OTy _ _ _ (canonF t.ann) _ _ := hc
      replace hc := hc.ge hB
      have hGl : ∀ c, Plus NoM w2 w3 c → w2.heap.size ≤ c ∧ c < w3.heap.size := fun c h => h.elim (fun h => h.elim) id
      generalize Plus NoM w2 w3 = GC at hc hGl
      have sw3 := (Stp.Y ew3 Lw hB).more hGl
      replace hT := hT.then sw3
      replace hr := hr.sp sw3 (fun x hx => ew3.block x (hr.lt x hx).2)
      replace hO := hO.sp sw3 (fun x hx => ew3.block x (hO.lt x hx).2)
      replace hfr := hfr.sp sw3 (fun x hx => ew3.block x (hfr.lt x hx).2)
      replace hl := hl.sp sw3 (ew3.block bl hl.lt)
      replace hoa := hoa.sp sw3 (fun x hx => ew3.block x (hoa.lt x hx).2)
      replace h3 := h3.sp sw3 (ew3.block b3 h3.lt)
      replace h4 := h4.sp sw3 (ew3.block b4 h4.lt)
      replace hb := hb.sp sw3
      replace hF1 := fun b h => sw3.sub b (hF1 b h)
      replace Lw := sw3.low
      replace hB := sw3.z hB
      have d_hc_hl : ∀ x, GC x → x ≠ bl := fun x hx => by have := (hGl x hx).1; omega
      have d_hc_h3 : ∀ x, GC x → x ≠ b3 := fun x hx => by have := (hGl x hx).1; omega
      have d_hc_h4 : ∀ x, GC x → x ≠ b4 := fun x hx => by have := (hGl x hx).1; omega
      have hszw := hB
      refine lC (oK fo85 rfl rfl rfl (loosen_own (canonF t.ann) b _ _ B _ _ GC bl hc (fun c hc => .inr hc) hl (fun g => d_hc_hl _ g rfl) hb Lw hB (by omega)) ?_)
      rintro vq w4 ⟨Mw4, Fw4, bvw4, hq, hq2, hlw4, hbw4, sw4, kw4⟩
      have frw4 : ∀ x, x < w3.heap.size → ¬ (GC x ∨ x = bl) → w4.heap[x]? = w3.heap[x]? := fun x hx hg => kw4.blk x ⟨hx, hg⟩
      replace hT := hT.then sw4
      replace hr := hr.sp sw4 (fun x hx => frw4 x (hr.lt x hx).2 (fun g => g.elim (fun g => by have := (hGl x g).1; have := (l_hr x hx).2; omega) (d_hr_hl x hx)))
      replace hO := hO.sp sw4 (fun x hx => frw4 x (hO.lt x hx).2 (fun g => g.elim (fun g => by have := (hGl x g).1; have := (l_hO x hx).2; omega) (d_hO_hl x hx)))
      replace hfr := hfr.sp sw4 (fun x hx => frw4 x (hfr.lt x hx).2 (fun g => g.elim (fun g => by have := (hGl x g).1; have := (l_hfr x hx).2; omega) (d_hfr_hl x hx)))
      replace h3 := h3.sp sw4 (frw4 b3 h3.lt (fun g => g.elim (fun g => d_hc_h3 _ g rfl) (ne_hl_h3.symm)))
      replace h4 := h4.sp sw4 (frw4 b4 h4.lt (fun g => g.elim (fun g => d_hc_h4 _ g rfl) (ne_hl_h4.symm)))
      replace hF1 := fun b h => sw4.sub b (hF1 b h)
      replace Lw := sw4.low
      replace hB := sw4.z hB
      replace hl := hlw4
      replace hb := hbw4
      have hoA := hq
      have hge : ∀ y, Fw4 y → w2.heap.size ≤ y := fun y hy => (hq2 y hy).2.elim (fun g => (hGl y g).1) (fun g => Nat.le_trans ew3.size g)
      have dd_hr_hoA : ∀ x y, kv.ownBlock = some x → Fw4 y → x ≠ y := fun x y hx hy => by have := hge y hy; have := (l_hr x hx).2; omega
      have dd_hO_hoA : ∀ x y, H x → Fw4 y → x ≠ y := fun x y hx hy => by have := hge y hy; have := (l_hO x hx).2; omega
      have d_hoA_hl : ∀ x, Fw4 x → x ≠ bl := fun x hx => by have := hge x hx; have := l_hl; omega
      have d_hoA_h3 : ∀ x, Fw4 x → x ≠ b3 := fun x hx => by have := hge x hx; have := l_h3; omega
      have d_hoA_h4 : ∀ x, Fw4 x → x ≠ b4 := fun x hx => by have := hge x hx; have := l_h4; omega
      obtain ⟨kvq, usq, Hq, rfl, _, _, _, _, _, _, _⟩ := oty_open hoA
      refine lP 1 tK rfl ?_
      refine lC (o_st tK h3.box rfl rfl rfl rfl hoA.one rfl rfl ?_)
      intro w5 hw5 qw5 bew5
      have uw5 : UpdB _ _ _ := ⟨qw5, bew5⟩
      have sw5 := uw5.sp h3.inM Lw h3.ge
      have frw5 := qw5.2
      replace hT := hT.then sw5
      replace hr := hr.sp sw5 (fun x hx => frw5 x (hr.lt x hx).2 (d_hr_h3 x hx))
      replace hO := hO.sp sw5 (fun x hx => frw5 x (hO.lt x hx).2 (d_hO_h3 x hx))
      replace hfr := hfr.sp sw5 (fun x hx => frw5 x (hfr.lt x hx).2 (d_hfr_h3 x hx))
      replace hl := hl.sp sw5 (frw5 bl hl.lt ne_hl_h3)
      replace h4 := h4.sp sw5 (frw5 b4 h4.lt ne_h3_h4.symm)
      replace hoA := hoA.sp sw5 (fun x hx => frw5 x (hoA.lt x hx).2 (d_hoA_h3 x hx))
      replace hb := hb.sp sw5
      replace hF1 := fun b h => sw5.sub b (hF1 b h)
      replace Lw := sw5.low
      replace hB := sw5.z hB
      replace h3 : MB B _ w5 b3 _ [.int .u8 t.op, .string t.name, .string t.arg, .int .i64 t.n, .bool t.has, .int .u8 (loosF (canonF t.ann) b).op, .string (loosF (canonF t.ann) b).name, .int .i64 (loosF (canonF t.ann) b).n, kvq, kv] := ⟨hw5, h3.inM, h3.ge⟩
      refine lN ?_
      obtain rfl : A = loosF (canonF t.ann) b := by rw [hAA, c1, cond_true]
      have hz1 : asz1 t = psz (canonF t.ann) := by unfold asz1; rw [c1]; rfl
      have hQ1 : ∀ c, Fw4 c → Mw4 c := fun c hc => by have := (hq2 c hc).1; first | exact this | exact hsubq c this
      have hQ2 : ∀ c, Fw4 c → F c ∨ w.heap.size ≤ c := fun c hc => .inr (Nat.le_trans hsz00 (hge c hc))
      rw [← hz1] at hb
      exact x_cut4 (Mw4) (Fw4) (bvw4) (kvq) (s3 rfl rfl rfl) ⟨hoA, hQ1, hQ2, hr, hO, hF1, hfr, hT, Lw, hB, hl, hb, h3, h4, dd_hr_hoA, dd_hO_hoA, d_hoA_hl, d_hoA_h3, d_hoA_h4⟩
    refine cK ?_
    have hf9 : t.has = false := by simpa using c1
    obtain rfl : A = t.ann := by rw [hAA, hf9, cond_false]
    have hz1 : asz1 t = 0 := by unfold asz1; rw [hf9]; rfl
    have hQ2 : ∀ c, FA c → F c ∨ w.heap.size ≤ c := fun c hc => .inl (hA c hc).1
    have hoA := hoa
    have hQ1 : ∀ c, FA c → (Rw.Add (Rw.Add M b3) b4) c := fun c hc => hT.sub c (hF c (hA c hc).1)
    have dd_hr_hoA := dd_hr_hoa
    have dd_hO_hoA := dd_hO_hoa
    have d_hoA_hl := d_hoa_hl
    have d_hoA_h3 : ∀ x, FA x → x ≠ b3 := d_hoa_h3
    have d_hoA_h4 : ∀ x, FA x → x ≠ b4 := d_hoa_h4
    replace hb : Sl (Rw.Add (Rw.Add M b3) b4) w2 bv (b.drop (asz1 t)) := by rw [hz1]; exact hb
    exact x_cut4 ((Rw.Add (Rw.Add M b3) b4)) (FA) (bv) (akv) (s3 rfl rfl rfl) ⟨hoA, hQ1, hQ2, hr, hO, hF1, hfr, hT, Lw, hB, hl, hb, h3, h4, dd_hr_hoA, dd_hO_hoA, d_hoA_hl, d_hoA_h3, d_hoA_h4⟩
  clear hoa hr hO hF1 hfr hT Lw hB hl hb h3 h4 dd_hr_hoa dd_hO_hoa d_hoa_hl
  rintro M1 FQ bv akv2 w80 ⟨hoA, hQ1, hQ2, hr, hO, hF1, hfr, hT, Lw, hB, hl, hb, h3, h4, dd_hr_hoA, dd_hO_hoA, d_hoA_hl, d_hoA_h3, d_hoA_h4⟩
  refine cS (q0 (lP 1 tK rfl ?_))
  refine lC (oD tK (h3.cell 9 _ rfl) rfl rfl rfl rfl rfl ?_)
  refine lC (o_lenO tK hr rfl rfl rfl rfl rfl ?_)
  refine lP 1 tK rfl (q1 (cB ?_))
  have hul := hO.len
  have hFn : ∀ c, H c → F c ∨ w.heap.size ≤ c := fun c hc => .inl (hH c hc).1
  have htl : (loosMK t.kids (b.drop (asz1 t))).length = t.kids.length := loosMK_len _ _
  refine c_loop5 (X := Nat) (Y := List (VN 9)) (Z := Nat → Prop) (U := Nat → Prop) (V := Value) (fun i us M1 F1 bv => [(0, .pointer (some ⟨bl, 0, none⟩)), (3, .pointer (some ⟨b3, 0, none⟩)), (4, .pointer (some ⟨b4, 0, none⟩)), (16, kv), (17, .int .i64 (t.kids.length : Int)), (18, .int .i64 (i : Nat))]) (fun i us M1 F1 bv w' => i ≤ t.kids.length ∧ OwnSl 59 B M1 w' kv us ∧ OMs 25 59 B w' us (upTo (loosMK t.kids (b.drop (asz1 t))) t.kids i) F1 ∧ (∀ c, F1 c → M1 c) ∧ (∀ c, F1 c → F c ∨ w.heap.size ≤ c) ∧ Kept w w' (Out (Rw.Add F bl) w) ∧ Stp B M M1 w w' ∧ Low M1 w' ∧ B ≤ w'.heap.size ∧ MB B M1 w' bl 87 [bv] ∧ Sl M1 w' bv (b.drop (asz1 t + uszs (t.kids.take i))) ∧ MB B M1 w' b3 59 [.int .u8 t.op, .string t.name, .string t.arg, .int .i64 t.n, .bool t.has, .int .u8 A.op, .string A.name, .int .i64 A.n, akv2, kv] ∧ MB B M1 w' b4 59 [.int .u8 0, .string ⟨#[]⟩, .string ⟨#[]⟩, .int .i64 0, .bool false, .int .u8 0, .string ⟨#[]⟩, .int .i64 0, .slice none 0 0, .slice none 0 0] ∧ OTy 25 B w' A (.agg #[.int .u8 A.op, .string A.name, .int .i64 A.n, akv2]) FQ ∧ (∀ c, FQ c → M1 c) ∧ (∀ x y, (kv : Value).ownBlock = some x → F1 y → x ≠ y) ∧ (∀ x y, (kv : Value).ownBlock = some x → (Out (Rw.Add F bl) w) y → x ≠ y) ∧ (∀ x, (kv : Value).ownBlock = some x → x ≠ bl) ∧ (∀ x, F1 x → x ≠ bl) ∧ (∀ x, (Out (Rw.Add F bl) w) x → x ≠ bl) ∧ (∀ x, (kv : Value).ownBlock = some x → x ≠ b3) ∧ (∀ x, F1 x → x ≠ b3) ∧ (∀ x, (Out (Rw.Add F bl) w) x → x ≠ b3) ∧ (∀ x, (kv : Value).ownBlock = some x → x ≠ b4) ∧ (∀ x, F1 x → x ≠ b4) ∧ (∀ x, (Out (Rw.Add F bl) w) x → x ≠ b4) ∧ (∀ x y, (kv : Value).ownBlock = some x → FQ y → x ≠ y) ∧ (∀ x y, F1 x → FQ y → x ≠ y) ∧ (∀ x, FQ x → x ≠ bl) ∧ (∀ x, FQ x → x ≠ b3) ∧ (∀ x, FQ x → x ≠ b4)) (fun i us M1 F1 bv => t.kids.length - i) (0) (us) (M1) (H) (bv) (s6 rfl rfl rfl rfl (gN rfl (by omega)) rfl) ?_ ?_
  · refine ⟨Nat.zero_le _, ?_⟩
    rw [upTo_zero]
    exact ⟨hr, hO, hF1, hFn, hfr, hT, Lw, hB, hl, (by simpa [uszs] using hb), h3, h4, hoA, hQ1, dd_hr_hO, dd_hr_hfr, d_hr_hl, d_hO_hl, d_hfr_hl, d_hr_h3, d_hO_h3, d_hfr_h3, d_hr_h4, d_hO_h4, d_hfr_h4, dd_hr_hoA, dd_hO_hoA, d_hoA_hl, d_hoA_h3, d_hoA_h4⟩
  clear hF1 hFn hfr hT dd_hr_hO dd_hr_hfr d_hr_hl d_hO_hl d_hfr_hl d_hr_h3 d_hO_h3 d_hfr_h3 d_hr_h4 d_hO_h4 d_hfr_h4 dd_hr_hoA dd_hO_hoA d_hoA_hl d_hoA_h3 d_hoA_h4 hul
  rintro i us M1 F1 bv w6 ⟨hi, hr, hO, hF1, hFn, hfr, hT, Lw, hB, hl, hb, h3, h4, hoA, hQ1, dd_hr_hO, dd_hr_hfr, d_hr_hl, d_hO_hl, d_hfr_hl, d_hr_h3, d_hO_h3, d_hfr_h3, d_hr_h4, d_hO_h4, d_hfr_h4, dd_hr_hoA, dd_hO_hoA, d_hoA_hl, d_hoA_h3, d_hoA_h4⟩
  have hul := hO.len
  rw [upTo_len htl] at hul
  refine q0 (lP 1 tK rfl (q1 (cS ?_)))
  refine cP _ rfl (fun c2 => ?_) (fun c2 => ?_)
  · refine cK (xS (cS (cB (q0 (lP 1 tK rfl ?_)))))
    have hik : i < t.kids.length := by omega
    obtain ⟨⟨uv⟩, G, hui, hx, hGF, hOh⟩ := hO.take (upTo_get htl hik)
    refine lC (o_ixO tK hr hui rfl rfl rfl rfl rfl rfl rfl rfl rfl ?_)
    intro ebx eux hobx hRx hX
    obtain ⟨e0, _⟩ := hRx
    replace e0 : eux = uv := e0
    subst e0
    obtain ⟨akvx, kvx, usx, Hx, FAx, rfl, hoax, hknx, hrx, hOx, hHx, hAx⟩ := otm_open hx
    replace hX : OAt _ _ _ [.int .u8 t.kids[i].op, .string t.kids[i].name, .string t.kids[i].arg, .int .i64 t.kids[i].n, .bool t.kids[i].has, .int .u8 t.kids[i].ann.op, .string t.kids[i].ann.name, .int .i64 t.kids[i].ann.n, akvx, kvx] := hX
    refine lC (oL tK (fun j v hv => hX.cell j v hv) rfl rfl rfl rfl rfl rfl ?_)
    refine lC (o_new tK rfl rfl rfl ?_)
    intro b6 w7 qb6 ew7 hb6
    have nb6 := nO Lw qb6
    refine lP 1 tK rfl ?_
    refine lC (o_st tK hb6 rfl rfl rfl rfl hx.one rfl rfl ?_)
    intro w8 h6 uw8 bew8
    have ew8 : Ext w6 w8 := ew7.trans (bew8 _ (lQ qb6.symm))
    replace hT := hT.then (Stp.Y ew8 Lw hB)
    replace hr := hr.Y Lw hB ew8
    replace hfr := hfr.Y Lw hB ew8
    replace hl := hl.Y Lw hB ew8
    replace h3 := h3.Y Lw hB ew8
    replace h4 := h4.Y Lw hB ew8
    replace hoA := hoA.Y Lw hB ew8
    replace hOh := hOh.Y Lw hB ew8
    replace hx := hx.Y Lw hB ew8
    replace hb := hb.Y ew8
    replace Lw := Lw.Y ew8
    replace hB := ew8.z hB
    replace h6 : Box w8 b6 59 [.int .u8 t.kids[i].op, .string t.kids[i].name, .string t.kids[i].arg, .int .i64 t.kids[i].n, .bool t.kids[i].has, .int .u8 t.kids[i].ann.op, .string t.kids[i].ann.name, .int .i64 t.kids[i].ann.n, akvx, kvx] := h6
    replace h6 := h6.at nb6
    refine q1 ?_
    refine a_beg (Sof2 B M1 b3) rfl ?_
    intro w9 ew9
    replace hT := hT.then (Stp.Y ew9 Lw hB)
    replace hr := hr.Y Lw hB ew9
    replace hfr := hfr.Y Lw hB ew9
    replace hl := hl.Y Lw hB ew9
    replace h3 := h3.Y Lw hB ew9
    replace h4 := h4.Y Lw hB ew9
    replace hoA := hoA.Y Lw hB ew9
    replace hOh := hOh.Y Lw hB ew9
    replace hx := hx.Y Lw hB ew9
    replace hb := hb.Y ew9
    replace h6 := h6.Y ew9
    replace Lw := Lw.Y ew9
    replace hB := ew9.z hB
    have hS : Stp B M1 M1 w9 w9 := Stp.refl Lw
    have D_hl := hl.box
    have D_hb := hb
    have D_h3 := h3.box
    have D_h4 := h4.box
    have D_h6 := h6
    refine a_p 0 tK rfl rfl rfl rfl (by kernel_rfl) i3 ⟨⟨_, hS⟩, h3.box.heap.trans D_h3.heap.symm⟩ ?_
    refine a_ld 1 tK (fun _ hs => (D_h3.so2 hs).cell 9 _ rfl) rfl rfl rfl rfl rfl rfl (by kernel_rfl) i3 ⟨⟨_, hS⟩, h3.box.heap.trans D_h3.heap.symm⟩ ?_
    refine a_p 2 tK rfl rfl rfl rfl (by kernel_rfl) i3 ⟨⟨_, hS⟩, h3.box.heap.trans D_h3.heap.symm⟩ ?_
    refine a_p 3 tK rfl rfl rfl rfl (by kernel_rfl) i3 ⟨⟨_, hS⟩, h3.box.heap.trans D_h3.heap.symm⟩ ?_
    refine a_lds 4 tK (fun _ hs j v hv => (D_h6.so2 hs).cell j v hv) rfl rfl rfl rfl rfl rfl rfl (by kernel_rfl) i3 ⟨⟨_, hS⟩, h3.box.heap.trans D_h3.heap.symm⟩ ?_
    obtain ⟨bk, hbk⟩ := hkx _ (gM hik)
    have l_h3 := h3.lt
    have l_h4 := h4.lt
    have l_hl := hl.lt
    have l_hoA := hoA.lt
    have hsz0 := hT.upd.1
    have lH := hOh.lt
    have lr := hr.lt
    refine a_one 5 rfl (by kernel_rfl) (oK fo88 rfl rfl rfl (ih _ (gM hik) (b.drop (asz1 t + uszs (t.kids.take i))) bk _ _ B _ bv G bl hbk hx (fun c hc => hF1 c (hGF c hc)) hl (fun g => d_hO_hl _ (hGF _ g) rfl) hb Lw hB (hz.kid (gM hik)) (by have := nsz_get hik; omega)) ?_)
    rintro vq w10 ⟨Mw10, Fw10, bvw10, hq, hq2, hlw10, hbw10, sw10, kw10⟩
    have frw10 : ∀ x, x < w9.heap.size → ¬ (G x ∨ x = bl) → w10.heap[x]? = w9.heap[x]? := fun x hx hg => kw10.blk x ⟨hx, hg⟩
    replace hT := hT.then sw10
    replace hS := hS.then sw10
    replace hr := hr.sp sw10 (fun x hx => frw10 x (hr.lt x hx).2 (fun g => g.elim (fun g => dd_hr_hO x x hx (hGF x g) rfl) (d_hr_hl x hx)))
    replace hfr := hfr.sp sw10 (fun x hx => frw10 x (hfr.lt x hx).2 (fun g => g.elim (fun g => (hFn x (hGF x g)).elim (fun h => hx.2 (.inl h)) (fun h => by have := hx.1; have := hfr.size; omega)) (fun e => hx.2 (.inr e))))
    replace h3 := h3.sp sw10 (frw10 b3 h3.lt (fun g => g.elim (fun g => d_hO_h3 _ (hGF _ g) rfl) (ne_hl_h3.symm)))
    replace h4 := h4.sp sw10 (frw10 b4 h4.lt (fun g => g.elim (fun g => d_hO_h4 _ (hGF _ g) rfl) (ne_hl_h4.symm)))
    replace hoA := hoA.sp sw10 (fun x hx => frw10 x (hoA.lt x hx).2 (fun g => g.elim (fun g => dd_hO_hoA x x (hGF x g) hx rfl) (d_hoA_hl x hx)))
    replace hOh := hOh.sp sw10 (fun c hc hn => frw10 c (hOh.lt c hc).2 (fun g => g.elim hn (d_hO_hl c hc)))
    replace h6 := h6.sp sw10
    replace hF1 := fun b h => sw10.sub b (hF1 b h)
    replace hQ1 := fun b h => sw10.sub b (hQ1 b h)
    replace Lw := sw10.low
    replace hB := sw10.z hB
    refine ⟨⟨⟨_, hS⟩, h3.box.heap.trans D_h3.heap.symm⟩, ?_⟩
    replace hl := hlw10
    replace hb := hbw10
    have hO := hOh.put hq (fun c hc => (hq2 c hc).2.elim .inl (fun h => .inr (fun hf => by have := (lH c hf).2; omega)))
    replace hF1 : ∀ c, F1 c ∨ Fw10 c → Mw10 c := fun c h => h.elim (hF1 c) (fun h => (hq2 c h).1)
    replace dd_hr_hO : ∀ x y, kv.ownBlock = some x → (F1 y ∨ Fw10 y) → x ≠ y := fun x y hx hy => hy.elim (dd_hr_hO x y hx) (fun h => (hq2 y h).2.elim (fun g => dd_hr_hO x y hx (hGF y g)) (fun h => by have := (lr x hx).2; omega))
    replace dd_hO_hoA : ∀ x y, (F1 x ∨ Fw10 x) → FQ y → x ≠ y := fun x y hx hy => hx.elim (fun h => dd_hO_hoA x y h hy) (fun h => (hq2 x h).2.elim (fun g => dd_hO_hoA x y (hGF x g) hy) (fun h => by have := (l_hoA y hy).2; omega))
    replace d_hO_h3 : ∀ x, (F1 x ∨ Fw10 x) → x ≠ b3 := fun x hx => hx.elim (d_hO_h3 x) (fun h => (hq2 x h).2.elim (fun g => d_hO_h3 x (hGF x g)) (fun h => by have := l_h3; omega))
    replace d_hO_h4 : ∀ x, (F1 x ∨ Fw10 x) → x ≠ b4 := fun x hx => hx.elim (d_hO_h4 x) (fun h => (hq2 x h).2.elim (fun g => d_hO_h4 x (hGF x g)) (fun h => by have := l_h4; omega))
    replace d_hO_hl : ∀ x, (F1 x ∨ Fw10 x) → x ≠ bl := fun x hx => hx.elim (d_hO_hl x) (fun h => (hq2 x h).2.elim (fun g => d_hO_hl x (hGF x g)) (fun h => by have := l_hl; omega))
    replace hFn : ∀ c, (F1 c ∨ Fw10 c) → F c ∨ w.heap.size ≤ c := fun c hc => hc.elim (hFn c) (fun h => (hq2 c h).2.elim (fun g => hFn c (hGF c g)) (fun h => .inr (by have := hsz0; omega)))
    refine a_ixO 6 tK hr hui rfl rfl rfl rfl rfl rfl rfl rfl rfl rfl (by kernel_rfl) i4 ⟨⟨_, hS⟩, h3.box.heap.trans D_h3.heap.symm⟩ ?_
    intro ebz euz hobz hRz hatz
    refine a_bar 7 rfl (by kernel_rfl) (by kernel_rfl) (o_stO tK hr hobz (by omega) hq.vn Lw rfl rfl rfl rfl rfl rfl ?_)
    intro w11 hw11 sw11 frw11
    replace hT := hT.then sw11
    replace hS := hS.then sw11
    replace hfr := hfr.sp sw11 (fun x hx => frw11 x (hfr.lt x hx).2 (fun e => dd_hr_hfr _ x hobz hx e.symm))
    replace hl := hl.sp sw11 (frw11 bl hl.lt (fun e => d_hr_hl _ hobz e.symm))
    replace h3 := h3.sp sw11 (frw11 b3 h3.lt (fun e => d_hr_h3 _ hobz e.symm))
    replace h4 := h4.sp sw11 (frw11 b4 h4.lt (fun e => d_hr_h4 _ hobz e.symm))
    replace hoA := hoA.sp sw11 (fun x hx => frw11 x (hoA.lt x hx).2 (fun e => dd_hr_hoA _ x hobz hx e.symm))
    replace hO := hO.sp sw11 (fun x hx => frw11 x (hO.lt x hx).2 (fun e => dd_hr_hO _ x hobz hx e.symm))
    replace hb := hb.sp sw11
    replace h6 := h6.sp sw11
    replace hF1 := fun b h => sw11.sub b (hF1 b h)
    replace hQ1 := fun b h => sw11.sub b (hQ1 b h)
    replace Lw := sw11.low
    replace hB := sw11.z hB
    replace hr := hw11
    clear hw11
    refine a_end (by kernel_rfl) ?_
    refine x_blk (xS (cG ?_))
    refine lC (o_ai rfl rfl rfl (by omega) rfl rfl ?_)
    refine lP 1 tK rfl (lN ?_)
    exact x_round5 (i + 1) (us.set i ⟨vq⟩) (Mw10) ((fun c => F1 c ∨ Fw10 c)) (bvw10) (s6 rfl rfl rfl rfl rfl rfl) ⟨by omega, hr, by rw [← upTo_set htl hik, loosMK_at hik, List.drop_drop]; exact hO, hF1, hFn, hfr, hT, Lw, hB, hl, by rw [uszs_take hik, ← Nat.add_assoc, ← List.drop_drop]; exact hb, h3, h4, hoA, hQ1, dd_hr_hO, dd_hr_hfr, d_hr_hl, d_hO_hl, d_hfr_hl, d_hr_h3, d_hO_h3, d_hfr_h3, d_hr_h4, d_hO_h4, d_hfr_h4, dd_hr_hoA, dd_hO_hoA, d_hoA_hl, d_hoA_h3, d_hoA_h4⟩ (by omega)
  refine c_exit (xE (xE (x_blkE (xS (q0 ?_)))))
  refine lC (oL tK (fun j v hv => h3.cell j v hv) rfl rfl rfl rfl rfl rfl ?_)
  refine lC (o_st tK h4.box rfl rfl rfl rfl (by intro u hu; simp [Value.cells] at hu; have := hoA.one; simp [Value.cells] at this; obtain ⟨a9, c9, e9, _⟩ := hr.val; rcases hu with rfl | rfl | rfl | rfl | rfl | rfl | rfl | rfl | rfl | rfl <;> first | rfl | exact this.2.2.2 | (rw [e9]; rfl)) rfl rfl ?_)
  intro w12 hw12 qw12 bew12
  have uw12 : UpdB _ _ _ := ⟨qw12, bew12⟩
  have sw12 := uw12.sp h4.inM Lw h4.ge
  have frw12 := qw12.2
  replace hT := hT.then sw12
  replace hr := hr.sp sw12 (fun x hx => frw12 x (hr.lt x hx).2 (d_hr_h4 x hx))
  replace hO := hO.sp sw12 (fun x hx => frw12 x (hO.lt x hx).2 (d_hO_h4 x hx))
  replace hfr := hfr.sp sw12 (fun x hx => frw12 x (hfr.lt x hx).2 (d_hfr_h4 x hx))
  replace hl := hl.sp sw12 (frw12 bl hl.lt ne_hl_h4)
  replace h3 := h3.sp sw12 (frw12 b3 h3.lt ne_h3_h4)
  replace hoA := hoA.sp sw12 (fun x hx => frw12 x (hoA.lt x hx).2 (d_hoA_h4 x hx))
  replace hb := hb.sp sw12
  replace hF1 := fun b h => sw12.sub b (hF1 b h)
  replace hQ1 := fun b h => sw12.sub b (hQ1 b h)
  replace Lw := sw12.low
  replace hB := sw12.z hB
  replace h4 : MB B _ w12 b4 _ [.int .u8 t.op, .string t.name, .string t.arg, .int .i64 t.n, .bool t.has, .int .u8 A.op, .string A.name, .int .i64 A.n, akv2, kv] := ⟨hw12, h4.inM, h4.ge⟩
  refine q1 (cR ?_)
  refine x_ret1s tK (fun j v hv => h4.cell j v hv) rfl rfl rfl rfl rfl ?_
  obtain rfl : i = t.kids.length := by omega
  rw [upTo_all htl (lR _)] at hO
  have hue : usz t = asz1 t + uszs (t.kids.take t.kids.length) := by rw [usz_eq, List.take_of_length_le (lR _)]; rfl
  refine ⟨_, fun c => kv.ownBlock = some c ∨ F1 c ∨ FQ c, _, ?_, fun c hc => hc.elim (fun h => ⟨hr.inM c h, .inl (hkF c h)⟩) (fun h => h.elim (fun h => ⟨hF1 c h, hFn c h⟩) (fun h => ⟨hQ1 c h, hQ2 c h⟩)), hl, by rw [hue]; exact hb, hT, hfr⟩
  rw [loosM_eq, ← hAA]
  exact otm_mk op nm ag n64 hoA (by rw [htl]; exact hkn) (fun c hc => hc.elim (hr.lt c) (fun h => h.elim (hO.lt c) (hoA.lt c))) (hr.keepV (fun b hb => .inl hb) (fun _ _ _ _ _ => rfl)) hO (fun c hc => ⟨.inr (.inl hc), fun e => dd_hr_hO c c e hc rfl⟩) (fun c hc => ⟨.inr (.inr hc), fun e => dd_hr_hoA c c e hc rfl, fun h => dd_hO_hoA c c h hc rfl⟩)
theorem LoosenT_spec (t : Tm) (b : List UInt8) (M : Nat → Prop) (w : World) (v u : Value) (ht : Rep.R M w v t) (hb : Sl M w u b) (hlow0 : Low M w) (hz : AnnS t) (hns : nsz t ≤ 2000000) :
    Calls Try.prog 57 #[v, u] w (Ret fun r w' => Rep.R M w' r (bif rightT t false then loosM t b else tz5) ∧ Ext w w') := by
  have Lw := hlow0
  have hB := lR w.heap.size
  have hE := Below.refl w.heap.size w
  have hsub : ∀ b, M b → M b := fun _ h => h
  obtain ⟨akv, kv, rfl, op, nm, ag, n64, ha, hk⟩ := tm_open ht
  obtain ⟨ab, cb, rfl, _⟩ := id hb
  refine cN (n := 15) Try.func57 rfl rfl rfl ?_
  refine q0 ?_
  refine lC (o_box rfl rfl rfl ?_)
  intro b2 w1 hb_b2 ew1 h2
  replace h2 : Box _ b2 59 [.int .u8 t.op, .string t.name, .string t.arg, .int .i64 t.n, .bool t.has, .int .u8 t.ann.op, .string t.ann.name, .int .i64 t.ann.n, akv, kv] := h2
  replace h2 := h2.at (nO Lw hb_b2)
  replace hE := ew1.bl hE hB
  replace ht := Rep.Y ht ew1
  replace ha := Rep.Y ha ew1
  replace hk := hk.Y ew1
  replace hb := hb.Y ew1
  replace Lw := Lw.Y ew1
  replace hB := ew1.z hB
  refine lC (o_new tK rfl rfl rfl ?_)
  intro b4 w2 qb4 ew2 hb4
  have sw2 := Stp.add ew2 Lw hB (lQ qb4.symm) hb4.lt
  have h4 : MB w.heap.size (Rw.Add M b4) w2 b4 59 [.int .u8 0, .string ⟨#[]⟩, .string ⟨#[]⟩, .int .i64 0, .bool false, .int .u8 0, .string ⟨#[]⟩, .int .i64 0, .slice none 0 0, .slice none 0 0] := MB.mk' hb4 qb4 hB
  replace hE := hE.trans sw2.below
  replace ht := Rep.sp ht sw2
  replace ha := Rep.sp ha sw2
  replace hk := hk.sp sw2
  replace hb := hb.sp sw2
  replace h2 := h2.sp sw2
  replace hsub := sw2.sb hsub
  replace Lw := sw2.low
  replace hB := sw2.z hB
  refine q1 (cS (q0 ?_))
  refine lC (oL tK (fun j v hv => h2.cell j v hv) rfl rfl rfl rfl rfl rfl ?_)
  refine lC (oK fo87 rfl rfl rfl (tRight_spec t _ _ _ ht Lw hz) ?_)
  rintro _ w3 ⟨rfl, ew3⟩
  replace h4 := h4.Y Lw hB ew3
  replace hE := ew3.bl hE hB
  replace ht := Rep.Y ht ew3
  replace ha := Rep.Y ha ew3
  replace hk := hk.Y ew3
  replace hb := hb.Y ew3
  replace h2 := h2.Y ew3
  replace Lw := Lw.Y ew3
  replace hB := ew3.z hB
  refine lP 1 tK rfl (q1 ?_)
  refine c_ifB _ rfl (fun hc0 => ?_) (fun hc0 => ?_)
  · have hr : rightT t false = false := by simpa using hc0
    refine q0 ?_
    refine lC (o_build (cells := [.int .u8 0, .string ⟨#[]⟩, .string ⟨#[]⟩, .int .i64 0, .bool false, .int .u8 0, .string ⟨#[]⟩, .int .i64 0, .slice none 0 0, .slice none 0 0]) (css := []) bd59 rfl rfl rfl rfl rfl ?_)
    refine lC (o_st tK h4.box rfl rfl rfl rfl (by intro u hu; simp [Value.cells] at hu; rcases hu with rfl | rfl | rfl | rfl | rfl | rfl | rfl | rfl | rfl | rfl <;> rfl) rfl rfl ?_)
    intro w4 hw4 qw4 bew4
    have uw4 : UpdB _ _ _ := ⟨qw4, bew4⟩
    have sw4 := uw4.sp h4.inM Lw h4.ge
    have frw4 := qw4.2
    replace hE := hE.trans sw4.below
    replace ht := Rep.sp ht sw4
    replace ha := Rep.sp ha sw4
    replace hk := hk.sp sw4
    replace hb := hb.sp sw4
    replace h2 := h2.sp sw4
    replace hsub := sw4.sb hsub
    replace Lw := sw4.low
    replace hB := sw4.z hB
    replace h4 : MB w.heap.size _ w4 b4 _ [.int .u8 0, .string ⟨#[]⟩, .string ⟨#[]⟩, .int .i64 0, .bool false, .int .u8 0, .string ⟨#[]⟩, .int .i64 0, .slice none 0 0, .slice none 0 0] := ⟨hw4, h4.inM, h4.ge⟩
    refine q1 (cR (xR ?_))
    refine x_ret1s tK (fun j v hv => h4.cell j v hv) rfl rfl rfl rfl rfl ?_
    rw [hr, cond_false]
    exact ⟨tm_mk (ann := .mk 0 ⟨#[]⟩ 0 []) (by decide) (by decide) (by decide) ⟨by decide, by decide⟩ (ty_mk (by decide) (by decide) ⟨by decide, by decide⟩ sl_nil) sl_nil, hE⟩
  have hr : rightT t false = true := by simpa using hc0
  refine cK (xS (q0 (lP 1 tK rfl ?_)))
  refine lC (o_build (cells := [.slice ab b.length cb]) bd87 rfl rfl rfl rfl rfl ?_)
  refine lC (o_new tK rfl rfl rfl ?_)
  intro bl w5 qbl ew5 hbl
  have ne_h4_hl : b4 ≠ bl := by have := h4.lt; omega
  have sw5 := Stp.add ew5 Lw hB (lQ qbl.symm) hbl.lt
  have hl : MB w.heap.size (Rw.Add (Rw.Add M b4) bl) w5 bl 87 [.slice none 0 0] := MB.mk' hbl qbl hB
  replace h4 := h4.sp sw5 (ew5.block b4 h4.lt)
  replace hE := hE.trans sw5.below
  replace ht := Rep.sp ht sw5
  replace ha := Rep.sp ha sw5
  replace hk := hk.sp sw5
  replace hb := hb.sp sw5
  replace h2 := h2.sp sw5
  replace hsub := sw5.sb hsub
  replace Lw := sw5.low
  replace hB := sw5.z hB
  refine lC (o_st tK hl.box rfl rfl rfl rfl (by intro u hu; simp [Value.cells] at hu; subst hu; rfl) rfl rfl ?_)
  intro w6 hw6 qw6 bew6
  have uw6 : UpdB _ _ _ := ⟨qw6, bew6⟩
  have sw6 := uw6.sp hl.inM Lw hl.ge
  have frw6 := qw6.2
  replace h4 := h4.sp sw6 (frw6 b4 h4.lt ne_h4_hl)
  replace hE := hE.trans sw6.below
  replace ht := Rep.sp ht sw6
  replace ha := Rep.sp ha sw6
  replace hk := hk.sp sw6
  replace hb := hb.sp sw6
  replace h2 := h2.sp sw6
  replace hsub := sw6.sb hsub
  replace Lw := sw6.low
  replace hB := sw6.z hB
  replace hl : MB w.heap.size _ w6 bl _ [.slice ab b.length cb] := ⟨hw6, hl.inM, hl.ge⟩
  refine q1 (q0 ?_)
  refine lC (oL tK (fun j v hv => h2.cell j v hv) rfl rfl rfl rfl rfl rfl ?_)
  have l_h4 := h4.lt
  have l_hl := hl.lt
  refine lC (oK fo89 rfl rfl rfl (copyM_own t _ _ _ ht Lw hz hns) ?_)
  rintro vc w7 ⟨hc, ew7⟩
  replace hc := hc.ge hB
  have hGl : ∀ c, Plus NoM w6 w7 c → w6.heap.size ≤ c ∧ c < w7.heap.size := fun c h => h.elim (fun h => h.elim) id
  generalize Plus NoM w6 w7 = G at hc hGl
  have sw7 := (Stp.Y ew7 Lw hB).more hGl
  replace h4 := h4.sp sw7 (ew7.block b4 h4.lt)
  replace hl := hl.sp sw7 (ew7.block bl hl.lt)
  replace hE := hE.trans sw7.below
  replace ht := Rep.sp ht sw7
  replace ha := Rep.sp ha sw7
  replace hk := hk.sp sw7
  replace hb := hb.sp sw7
  replace h2 := h2.sp sw7
  replace hsub := sw7.sb hsub
  replace Lw := sw7.low
  replace hB := sw7.z hB
  have d_hc_h4 : ∀ x, G x → x ≠ b4 := fun x hx => by have := (hGl x hx).1; omega
  have d_hc_hl : ∀ x, G x → x ≠ bl := fun x hx => by have := (hGl x hx).1; omega
  have l2_h4 := h4.lt
  refine lC (oK fo88 rfl rfl rfl (term_own t b false _ _ w.heap.size _ _ G bl hr hc (fun c hc => .inr hc) hl (fun g => d_hc_hl _ g rfl) hb Lw hB hz hns) ?_)
  rintro vq w8 ⟨Mw8, Fw8, bvw8, hq, hq2, hlw8, hbw8, sw8, kw8⟩
  replace h4 := h4.sp sw8 (kw8.blk b4 ⟨h4.lt, fun g => g.elim (fun g => d_hc_h4 _ g rfl) (ne_h4_hl)⟩)
  replace hE := hE.trans sw8.below
  replace ht := Rep.sp ht sw8
  replace ha := Rep.sp ha sw8
  replace hk := hk.sp sw8
  replace h2 := h2.sp sw8
  replace hsub := sw8.sb hsub
  replace Lw := sw8.low
  replace hB := sw8.z hB
  have d_hq_h4 : ∀ x, Fw8 x → x ≠ b4 := fun x hx => (hq2 x hx).2.elim (d_hc_h4 x) (fun h => by omega)
  obtain ⟨akvq, kvq, _, _, _, rfl, _⟩ := otm_open hq
  refine lC (o_st tK h4.box rfl rfl rfl rfl hq.one rfl rfl ?_)
  intro w9 hw9 qw9 bew9
  have uw9 : UpdB _ _ _ := ⟨qw9, bew9⟩
  have sw9 := uw9.sp h4.inM Lw h4.ge
  have frw9 := qw9.2
  replace hq := hq.sp sw9 (fun x hx => frw9 x (hq.lt x hx).2 (d_hq_h4 x hx))
  replace hE := hE.trans sw9.below
  replace ht := Rep.sp ht sw9
  replace ha := Rep.sp ha sw9
  replace hk := hk.sp sw9
  replace h2 := h2.sp sw9
  replace hsub := sw9.sb hsub
  replace Lw := sw9.low
  replace hB := sw9.z hB
  replace h4 : MB w.heap.size _ w9 b4 _ [.int .u8 (loosM t b).op, .string (loosM t b).name, .string (loosM t b).arg, .int .i64 (loosM t b).n, .bool (loosM t b).has, .int .u8 (loosM t b).ann.op, .string (loosM t b).ann.name, .int .i64 (loosM t b).ann.n, akvq, kvq] := ⟨hw9, h4.inM, h4.ge⟩
  refine q1 (cR ?_)
  refine x_ret1s tK (fun j v hv => h4.cell j v hv) rfl rfl rfl rfl rfl ?_
  rw [hr, cond_true]
  exact ⟨hq.rep (fun c hc hm => by have := hlow0 c hm; have := (hq.lt c hc).1; omega), hE⟩
theorem precTerms_spec (t s : Tm) (b : List UInt8) (M : Nat → Prop) (w : World) (v u x : Value) (ht : Rep.R M w v t) (hs : Rep.R M w u s) (hb : Sl M w x b) (hzt : tmsz t ≤ 2000000) (hzt2 : tmsz s ≤ 2000000) (Lw : Low M w) :
    Calls Try.prog 13 #[v, u, x] w (Ret fun r w' => r = .bool true ∧ Ext w w') := by
  have hE := Below.refl w.heap.size w
  have hB := lR w.heap.size
  have hz := annS_tmsz hzt
  have hns := Nat.le_trans (nsz_tmsz t) hzt
  have hazt := Nat.le_trans (asz_tmsz t) hzt
  have hzs := annS_tmsz hzt2
  have hnss := Nat.le_trans (nsz_tmsz s) hzt2
  have hass := Nat.le_trans (asz_tmsz s) hzt2
  have hblt := hb.lt
  obtain ⟨akv, kv, rfl, op, nm, ag, n64, ha, hk⟩ := tm_open ht
  obtain ⟨akvs, kvs, rfl, ops, nms, ags, n64s, has, hks⟩ := tm_open hs
  refine cN (n := 68) Try.func13 rfl rfl rfl ?_
  refine q0 ?_
  refine lC (o_box rfl rfl rfl ?_)
  intro b3 w1 hb_b3 ew1 h3
  replace h3 : Box _ b3 59 [.int .u8 t.op, .string t.name, .string t.arg, .int .i64 t.n, .bool t.has, .int .u8 t.ann.op, .string t.ann.name, .int .i64 t.ann.n, akv, kv] := h3
  replace h3 := h3.at (nO Lw hb_b3)
  replace hE := ew1.bl hE hB
  replace hb := hb.Y ew1
  replace ht := Rep.Y ht ew1
  replace ha := Rep.Y ha ew1
  replace hk := hk.Y ew1
  replace hs := Rep.Y hs ew1
  replace has := Rep.Y has ew1
  replace hks := hks.Y ew1
  replace Lw := Lw.Y ew1
  replace hB := ew1.z hB
  refine lC (o_box rfl rfl rfl ?_)
  intro b4 w2 hb_b4 ew2 h4
  replace h4 : Box _ b4 59 [.int .u8 s.op, .string s.name, .string s.arg, .int .i64 s.n, .bool s.has, .int .u8 s.ann.op, .string s.ann.name, .int .i64 s.ann.n, akvs, kvs] := h4
  replace h4 := h4.at (nO Lw hb_b4)
  replace hE := ew2.bl hE hB
  replace hb := hb.Y ew2
  replace ht := Rep.Y ht ew2
  replace ha := Rep.Y ha ew2
  replace hk := hk.Y ew2
  replace hs := Rep.Y hs ew2
  replace has := Rep.Y has ew2
  replace hks := hks.Y ew2
  replace h3 := h3.Y ew2
  replace Lw := Lw.Y ew2
  replace hB := ew2.z hB
  refine lP 1 tK rfl (q1 (cS (q0 ?_)))
  refine lC (oK fo38 rfl rfl rfl (alive08_spec M _ Lw) ?_)
  rintro _ w3 ⟨rfl, ew3⟩
  replace hE := ew3.bl hE hB
  replace hb := hb.Y ew3
  replace ht := Rep.Y ht ew3
  replace ha := Rep.Y ha ew3
  replace hk := hk.Y ew3
  replace hs := Rep.Y hs ew3
  replace has := Rep.Y has ew3
  replace hks := hks.Y ew3
  replace h3 := h3.Y ew3
  replace h4 := h4.Y ew3
  replace Lw := Lw.Y ew3
  replace hB := ew3.z hB
  refine lP 1 tK rfl (q1 ?_)
  refine c_ifB _ rfl (fun c1 => ?_) (fun c1 => ?_)
  · first | (exfalso; omega) | exact absurd c1 (by simp)
  refine cK (xS (cS (q0 ?_)))
  refine lC (oL tK (fun j v hv => h3.cell j v hv) rfl rfl rfl rfl rfl rfl ?_)
  refine lC (oK fo56 rfl rfl rfl (large_spec t M _ _ ht Lw hz hns hazt) ?_)
  rintro _ w4 ⟨rfl, ew4⟩
  replace hE := ew4.bl hE hB
  replace hb := hb.Y ew4
  replace ht := Rep.Y ht ew4
  replace ha := Rep.Y ha ew4
  replace hk := hk.Y ew4
  replace hs := Rep.Y hs ew4
  replace has := Rep.Y has ew4
  replace hks := hks.Y ew4
  replace h3 := h3.Y ew4
  replace h4 := h4.Y ew4
  replace Lw := Lw.Y ew4
  replace hB := ew4.z hB
  refine lP 1 tK rfl ?_
  refine l_split 15 _ rfl (fun c2 => ?_) (fun c2 => ?_)
  · refine lP 8 tK rfl (q1 (cI rfl (q0 (lP 1 tK rfl (q1 (cR (xR (x1_ rfl rfl ?_))))))))
    exact ⟨rfl, hE⟩
  refine lC (oL tK (fun j v hv => h4.cell j v hv) rfl rfl rfl rfl rfl rfl ?_)
  refine lC (oK fo56 rfl rfl rfl (large_spec s M _ _ hs Lw hzs hnss hass) ?_)
  rintro _ w5 ⟨rfl, ew5⟩
  replace hE := ew5.bl hE hB
  replace hb := hb.Y ew5
  replace ht := Rep.Y ht ew5
  replace ha := Rep.Y ha ew5
  replace hk := hk.Y ew5
  replace hs := Rep.Y hs ew5
  replace has := Rep.Y has ew5
  replace hks := hks.Y ew5
  replace h3 := h3.Y ew5
  replace h4 := h4.Y ew5
  replace Lw := Lw.Y ew5
  replace hB := ew5.z hB
  refine lP 2 tK rfl ?_
  refine l_split 19 _ rfl (fun c3 => ?_) (fun c3 => ?_)
  · refine lP 4 tK rfl (q1 (cI rfl (q0 (lP 1 tK rfl (q1 (cR (xR (x1_ rfl rfl ?_))))))))
    exact ⟨rfl, hE⟩
  refine lP 1 tK rfl ?_
  refine lC (o_len tK hb rfl rfl rfl rfl rfl ?_)
  refine lP 2 tK rfl (q1 ?_)
  refine cP _ rfl (fun c4 => ?_) (fun c4 => ?_)
  · refine q0 (lP 1 tK rfl (q1 (cR (xR (x1_ rfl rfl ?_)))))
    exact ⟨rfl, hE⟩
  refine cK (xS (q0 ?_))
  refine lC (oL tK (fun j v hv => h3.cell j v hv) rfl rfl rfl rfl rfl rfl ?_)
  refine lP 1 tK rfl ?_
  refine lC (oK fo57 rfl rfl rfl (LoosenT_spec t b M _ _ _ ht hb Lw hz hns) ?_)
  rintro vhx7 w6 ⟨hx7, ew6⟩
  replace hE := ew6.bl hE hB
  replace hb := hb.Y ew6
  replace ht := Rep.Y ht ew6
  replace ha := Rep.Y ha ew6
  replace hk := hk.Y ew6
  replace hs := Rep.Y hs ew6
  replace has := Rep.Y has ew6
  replace hks := hks.Y ew6
  replace h3 := h3.Y ew6
  replace h4 := h4.Y ew6
  replace Lw := Lw.Y ew6
  replace hB := ew6.z hB
  obtain ⟨xt, hxt⟩ : ∃ xt, xt = (bif rightT t false then loosM t b else tz5) := ⟨_, rfl⟩
  rw [← hxt] at hx7
  obtain ⟨akvq, kvq, rfl, opq, nmq, agq, n64q, haq, hkq⟩ := tm_open hx7
  refine lC (o_new tK rfl rfl rfl ?_)
  intro b7 w7 qb7 ew7 hb7
  have nb7 := nO Lw qb7
  refine lC (o_st tK hb7 rfl rfl rfl rfl (Rep.one hx7) rfl rfl ?_)
  intro w8 h7 uw8 bew8
  have ew8 : Ext w6 w8 := ew7.trans (bew8 _ (lQ qb7.symm))
  replace hE := ew8.bl hE hB
  replace hb := hb.Y ew8
  replace ht := Rep.Y ht ew8
  replace ha := Rep.Y ha ew8
  replace hk := hk.Y ew8
  replace hs := Rep.Y hs ew8
  replace has := Rep.Y has ew8
  replace hks := hks.Y ew8
  replace h3 := h3.Y ew8
  replace h4 := h4.Y ew8
  replace hx7 := Rep.Y hx7 ew8
  replace haq := Rep.Y haq ew8
  replace hkq := hkq.Y ew8
  replace Lw := Lw.Y ew8
  replace hB := ew8.z hB
  replace h7 : Box w8 b7 59 [.int .u8 xt.op, .string xt.name, .string xt.arg, .int .i64 xt.n, .bool xt.has, .int .u8 xt.ann.op, .string xt.ann.name, .int .i64 xt.ann.n, akvq, kvq] := h7
  replace h7 := h7.at nb7
  refine q1 (q0 ?_)
  refine lC (oL tK (fun j v hv => h3.cell j v hv) rfl rfl rfl rfl rfl rfl ?_)
  refine lC (oK fo58 rfl rfl rfl (refTR_spec t false M _ _ ht Lw hz) ?_)
  rintro _ w9 ⟨rfl, ew9⟩
  replace hE := ew9.bl hE hB
  replace hb := hb.Y ew9
  replace ht := Rep.Y ht ew9
  replace ha := Rep.Y ha ew9
  replace hk := hk.Y ew9
  replace hs := Rep.Y hs ew9
  replace has := Rep.Y has ew9
  replace hks := hks.Y ew9
  replace h3 := h3.Y ew9
  replace h4 := h4.Y ew9
  replace hx7 := Rep.Y hx7 ew9
  replace haq := Rep.Y haq ew9
  replace hkq := hkq.Y ew9
  replace h7 := h7.Y ew9
  replace Lw := Lw.Y ew9
  replace hB := ew9.z hB
  refine lP 1 tK rfl (q1 (cS (q0 (lP 2 tK rfl (q1 ?_)))))
  refine c_ifB _ rfl (fun c5 => ?_) (fun c5 => ?_)
  · have hr : rightT t false = false := by simpa using c5
    refine q0 ?_
    refine lC (oL tK (fun j v hv => h7.cell j v hv) rfl rfl rfl rfl rfl rfl ?_)
    have hxe : xt = tz5 := by rw [hxt, hr, cond_false]
    subst hxe
    refine lC (o_build (cells := [.int .u8 0, .string ⟨#[]⟩, .string ⟨#[]⟩, .int .i64 0, .bool false, .int .u8 0, .string ⟨#[]⟩, .int .i64 0, .slice none 0 0, .slice none 0 0]) (css := []) bd59 rfl rfl rfl rfl rfl ?_)
    have hzz : Rep.R M w9 (.agg #[.int .u8 0, .string ⟨#[]⟩, .string ⟨#[]⟩, .int .i64 0, .bool false, .int .u8 0, .string ⟨#[]⟩, .int .i64 0, .slice none 0 0, .slice none 0 0]) tz5 := tm_mk (ann := .mk 0 ⟨#[]⟩ 0 []) (by decide) (by decide) (by decide) ⟨by decide, by decide⟩ (ty_mk (by decide) (by decide) ⟨by decide, by decide⟩ sl_nil) sl_nil
    have hal := alikeM_spec tz5 tz5 M _ _ _ hx7 hzz Lw
    rw [cl_true rfl] at hal
    refine lC (oK fo59 rfl rfl rfl (hal) ?_)
    rintro _ w10 ⟨rfl, ew10⟩
    replace hE := ew10.bl hE hB
    replace hb := hb.Y ew10
    replace ht := Rep.Y ht ew10
    replace ha := Rep.Y ha ew10
    replace hk := hk.Y ew10
    replace hs := Rep.Y hs ew10
    replace has := Rep.Y has ew10
    replace hks := hks.Y ew10
    replace h3 := h3.Y ew10
    replace h4 := h4.Y ew10
    replace hx7 := Rep.Y hx7 ew10
    replace haq := Rep.Y haq ew10
    replace hkq := hkq.Y ew10
    replace h7 := h7.Y ew10
    replace hzz := Rep.Y hzz ew10
    replace Lw := Lw.Y ew10
    replace hB := ew10.z hB
    refine lP 1 tK rfl ?_
    refine lC (oL tK (fun j v hv => h3.cell j v hv) rfl rfl rfl rfl rfl rfl ?_)
    refine lC (oL tK (fun j v hv => h4.cell j v hv) rfl rfl rfl rfl rfl rfl ?_)
    have htm6 := Terms_spec t s M _ _ _ ht hs Lw hz hzs
    rw [hr, Bool.false_and] at htm6
    refine lC (oK fo60 rfl rfl rfl (htm6) ?_)
    rintro _ w11 ⟨rfl, ew11⟩
    replace hE := ew11.bl hE hB
    replace hb := hb.Y ew11
    replace ht := Rep.Y ht ew11
    replace ha := Rep.Y ha ew11
    replace hk := hk.Y ew11
    replace hs := Rep.Y hs ew11
    replace has := Rep.Y has ew11
    replace hks := hks.Y ew11
    replace h3 := h3.Y ew11
    replace h4 := h4.Y ew11
    replace hx7 := Rep.Y hx7 ew11
    replace haq := Rep.Y haq ew11
    replace hkq := hkq.Y ew11
    replace h7 := h7.Y ew11
    replace hzz := Rep.Y hzz ew11
    replace Lw := Lw.Y ew11
    replace hB := ew11.z hB
    refine lP 3 tK rfl ?_
    refine lC (oL tK (fun j v hv => h4.cell j v hv) rfl rfl rfl rfl rfl rfl ?_)
    refine lC (oL tK (fun j v hv => h3.cell j v hv) rfl rfl rfl rfl rfl rfl ?_)
    have htm7 := Terms_spec s t M _ _ _ hs ht Lw hzs hz
    rw [hr, Bool.false_and, Bool.and_false] at htm7
    refine lC (oK fo60 rfl rfl rfl (htm7) ?_)
    rintro _ w12 ⟨rfl, ew12⟩
    replace hE := ew12.bl hE hB
    replace hb := hb.Y ew12
    replace ht := Rep.Y ht ew12
    replace ha := Rep.Y ha ew12
    replace hk := hk.Y ew12
    replace hs := Rep.Y hs ew12
    replace has := Rep.Y has ew12
    replace hks := hks.Y ew12
    replace h3 := h3.Y ew12
    replace h4 := h4.Y ew12
    replace hx7 := Rep.Y hx7 ew12
    replace haq := Rep.Y haq ew12
    replace hkq := hkq.Y ew12
    replace h7 := h7.Y ew12
    replace hzz := Rep.Y hzz ew12
    replace Lw := Lw.Y ew12
    replace hB := ew12.z hB
    refine lP 3 tK rfl (q1 (cR (xR (x1_ rfl rfl ?_))))
    exact ⟨rfl, hE⟩
  have hr : rightT t false = true := by simpa using c5
  refine cK (xS (q0 ?_))
  refine lC (oL tK (fun j v hv => h3.cell j v hv) rfl rfl rfl rfl rfl rfl ?_)
  refine lP 1 tK rfl ?_
  refine lC (oK fo61 rfl rfl rfl (refTerm_spec t b false M _ _ _ hr ht hb Lw hz hazt hns) ?_)
  rintro _ w13 ⟨⟨y9, rfl, hy9⟩, ew13⟩
  replace hE := ew13.bl hE hB
  replace hb := hb.Y ew13
  replace ht := Rep.Y ht ew13
  replace ha := Rep.Y ha ew13
  replace hk := hk.Y ew13
  replace hs := Rep.Y hs ew13
  replace has := Rep.Y has ew13
  replace hks := hks.Y ew13
  replace h3 := h3.Y ew13
  replace h4 := h4.Y ew13
  replace hx7 := Rep.Y hx7 ew13
  replace haq := Rep.Y haq ew13
  replace hkq := hkq.Y ew13
  replace h7 := h7.Y ew13
  replace Lw := Lw.Y ew13
  replace hB := ew13.z hB
  obtain ⟨akvr, kvr, rfl, opr, nmr, agr, n64r, har, hkr⟩ := tm_open hy9
  refine lP 3 tK rfl ?_
  refine lC (o_new tK rfl rfl rfl ?_)
  intro b9 w14 qb9 ew14 hb9
  have nb9 := nO Lw qb9
  refine lC (o_st tK hb9 rfl rfl rfl rfl (Rep.one hy9) rfl rfl ?_)
  intro w15 h9 uw15 bew15
  have ew15 : Ext w13 w15 := ew14.trans (bew15 _ (lQ qb9.symm))
  replace hE := ew15.bl hE hB
  replace hb := hb.Y ew15
  replace ht := Rep.Y ht ew15
  replace ha := Rep.Y ha ew15
  replace hk := hk.Y ew15
  replace hs := Rep.Y hs ew15
  replace has := Rep.Y has ew15
  replace hks := hks.Y ew15
  replace h3 := h3.Y ew15
  replace h4 := h4.Y ew15
  replace hx7 := Rep.Y hx7 ew15
  replace haq := Rep.Y haq ew15
  replace hkq := hkq.Y ew15
  replace h7 := h7.Y ew15
  replace hy9 := Rep.Y hy9 ew15
  replace har := Rep.Y har ew15
  replace hkr := hkr.Y ew15
  replace Lw := Lw.Y ew15
  replace hB := ew15.z hB
  replace h9 : Box w15 b9 59 [.int .u8 (loosM t b).op, .string (loosM t b).name, .string (loosM t b).arg, .int .i64 (loosM t b).n, .bool (loosM t b).has, .int .u8 (loosM t b).ann.op, .string (loosM t b).ann.name, .int .i64 (loosM t b).ann.n, akvr, kvr] := h9
  replace h9 := h9.at nb9
  refine lP 1 tK rfl (q1 (cS ?_))
  refine a_beg Ext rfl ?_
  intro w16 ew16
  replace hE := ew16.bl hE hB
  replace hb := hb.Y ew16
  replace ht := Rep.Y ht ew16
  replace ha := Rep.Y ha ew16
  replace hk := hk.Y ew16
  replace hs := Rep.Y hs ew16
  replace has := Rep.Y has ew16
  replace hks := hks.Y ew16
  replace h3 := h3.Y ew16
  replace h4 := h4.Y ew16
  replace hx7 := Rep.Y hx7 ew16
  replace haq := Rep.Y haq ew16
  replace hkq := hkq.Y ew16
  replace h7 := h7.Y ew16
  replace hy9 := Rep.Y hy9 ew16
  replace har := Rep.Y har ew16
  replace hkr := hkr.Y ew16
  replace h9 := h9.Y ew16
  replace Lw := Lw.Y ew16
  replace hB := ew16.z hB
  have hS : Ext w16 w16 := ext_refl _
  have D_hb := hb
  have D_hk := hk
  have D_hks := hks
  have D_h3 := h3
  have D_h4 := h4
  have D_hkq := hkq
  have D_h7 := h7
  have D_hkr := hkr
  have D_h9 := h9
  refine a_lds 0 tK (fun _ hs j v hv => (D_h7.Y hs).cell j v hv) rfl rfl rfl rfl rfl rfl rfl (by kernel_rfl) i3 hS ?_
  refine a_lds 1 tK (fun _ hs j v hv => (D_h9.Y hs).cell j v hv) rfl rfl rfl rfl rfl rfl rfl (by kernel_rfl) i3 hS ?_
  have hxe : xt = loosM t b := by rw [hxt, hr, cond_true]
  have hal := alikeM_spec xt (loosM t b) M _ _ _ hx7 hy9 Lw
  rw [cl_true hxe] at hal
  refine a_bar 2 rfl (by kernel_rfl) (by kernel_rfl) (oK fo59 rfl rfl rfl (hal) ?_)
  rintro _ w17 ⟨rfl, ew17⟩
  replace hS := hS.then ew17
  replace hE := ew17.bl hE hB
  replace hb := hb.Y ew17
  replace ht := Rep.Y ht ew17
  replace ha := Rep.Y ha ew17
  replace hk := hk.Y ew17
  replace hs := Rep.Y hs ew17
  replace has := Rep.Y has ew17
  replace hks := hks.Y ew17
  replace h3 := h3.Y ew17
  replace h4 := h4.Y ew17
  replace hx7 := Rep.Y hx7 ew17
  replace haq := Rep.Y haq ew17
  replace hkq := hkq.Y ew17
  replace h7 := h7.Y ew17
  replace hy9 := Rep.Y hy9 ew17
  replace har := Rep.Y har ew17
  replace hkr := hkr.Y ew17
  replace h9 := h9.Y ew17
  replace Lw := Lw.Y ew17
  replace hB := ew17.z hB
  refine a_p 3 tK rfl rfl rfl rfl (by kernel_rfl) i3 hS ?_
  refine a_lds 4 tK (fun _ hs j v hv => (D_h3.Y hs).cell j v hv) rfl rfl rfl rfl rfl rfl rfl (by kernel_rfl) i3 hS ?_
  refine a_lds 5 tK (fun _ hs j v hv => (D_h4.Y hs).cell j v hv) rfl rfl rfl rfl rfl rfl rfl (by kernel_rfl) i3 hS ?_
  refine a_lds 7 tK (fun _ hs j v hv => (D_h4.Y hs).cell j v hv) rfl rfl rfl rfl rfl rfl rfl (by kernel_rfl) i3 hS ?_
  have htm8 := Terms_spec t s M _ _ _ ht hs Lw hz hzs
  rw [hr, Bool.true_and] at htm8
  refine a_one 6 rfl (by kernel_rfl) (oK fo60 rfl rfl rfl (htm8) ?_)
  rintro _ w18 ⟨rfl, ew18⟩
  replace hS := hS.then ew18
  replace hE := ew18.bl hE hB
  replace hb := hb.Y ew18
  replace ht := Rep.Y ht ew18
  replace ha := Rep.Y ha ew18
  replace hk := hk.Y ew18
  replace hs := Rep.Y hs ew18
  replace has := Rep.Y has ew18
  replace hks := hks.Y ew18
  replace h3 := h3.Y ew18
  replace h4 := h4.Y ew18
  replace hx7 := Rep.Y hx7 ew18
  replace haq := Rep.Y haq ew18
  replace hkq := hkq.Y ew18
  replace h7 := h7.Y ew18
  replace hy9 := Rep.Y hy9 ew18
  replace har := Rep.Y har ew18
  replace hkr := hkr.Y ew18
  replace h9 := h9.Y ew18
  replace Lw := Lw.Y ew18
  replace hB := ew18.z hB
  refine ⟨hS, ?_⟩
  refine a_bar 8 rfl (by kernel_rfl) (by kernel_rfl) (oK fo58 rfl rfl rfl (refTR_spec s false M _ _ hs Lw hzs) ?_)
  rintro _ w19 ⟨rfl, ew19⟩
  replace hS := hS.then ew19
  replace hE := ew19.bl hE hB
  replace hb := hb.Y ew19
  replace ht := Rep.Y ht ew19
  replace ha := Rep.Y ha ew19
  replace hk := hk.Y ew19
  replace hs := Rep.Y hs ew19
  replace has := Rep.Y has ew19
  replace hks := hks.Y ew19
  replace h3 := h3.Y ew19
  replace h4 := h4.Y ew19
  replace hx7 := Rep.Y hx7 ew19
  replace haq := Rep.Y haq ew19
  replace hkq := hkq.Y ew19
  replace h7 := h7.Y ew19
  replace hy9 := Rep.Y hy9 ew19
  replace har := Rep.Y har ew19
  replace hkr := hkr.Y ew19
  replace h9 := h9.Y ew19
  replace Lw := Lw.Y ew19
  replace hB := ew19.z hB
  refine a_p 9 tK rfl rfl rfl rfl (by kernel_rfl) i3 hS ?_
  refine a_split 61 _ rfl (fun c9 => ?_) (fun c9 => ?_)
  · refine a_lds 10 tK (fun _ hs j v hv => (D_h3.Y hs).cell j v hv) rfl rfl rfl rfl rfl rfl rfl (by kernel_rfl) i3 hS ?_
    refine a_lds 11 tK (fun _ hs j v hv => (D_h4.Y hs).cell j v hv) rfl rfl rfl rfl rfl rfl rfl (by kernel_rfl) i3 hS ?_
    refine a_bar 12 rfl (by kernel_rfl) (by kernel_rfl) (oK fo62 rfl rfl rfl (refTerms_spec t s M _ _ _ hz hzs ht hs Lw) ?_)
    rintro _ w20 ⟨rfl, ew20⟩
    replace hS := hS.then ew20
    replace hE := ew20.bl hE hB
    replace hb := hb.Y ew20
    replace ht := Rep.Y ht ew20
    replace ha := Rep.Y ha ew20
    replace hk := hk.Y ew20
    replace hs := Rep.Y hs ew20
    replace has := Rep.Y has ew20
    replace hks := hks.Y ew20
    replace h3 := h3.Y ew20
    replace h4 := h4.Y ew20
    replace hx7 := Rep.Y hx7 ew20
    replace haq := Rep.Y haq ew20
    replace hkq := hkq.Y ew20
    replace h7 := h7.Y ew20
    replace hy9 := Rep.Y hy9 ew20
    replace har := Rep.Y har ew20
    replace hkr := hkr.Y ew20
    replace h9 := h9.Y ew20
    replace Lw := Lw.Y ew20
    replace hB := ew20.z hB
    refine a_p 13 tK rfl rfl rfl rfl (by kernel_rfl) i3 hS ?_
    refine a_bar 14 rfl (by kernel_rfl) (by kernel_rfl) (o_beq tK rfl rfl rfl rfl rfl rfl ?_)
    refine a_p 15 tK rfl rfl rfl rfl (by kernel_rfl) i3 hS ?_
    refine a_p 16 tK rfl rfl rfl rfl (by kernel_rfl) i3 hS ?_
    refine a_end (by kernel_rfl) ?_
    refine xS (cR (x1_ rfl rfl ?_))
    exact ⟨by simp [c9], hE⟩
  refine aK 10 rfl rfl rfl (by kernel_rfl) i3 hS ?_
  refine aK 11 rfl rfl rfl (by kernel_rfl) i3 hS ?_
  refine aK 12 rfl rfl rfl (by kernel_rfl) i3 hS ?_
  refine a_p 13 tK rfl rfl rfl rfl (by kernel_rfl) i3 hS ?_
  refine a_bar 14 rfl (by kernel_rfl) (by kernel_rfl) (o_beq tK rfl rfl rfl rfl rfl rfl ?_)
  refine a_p 15 tK rfl rfl rfl rfl (by kernel_rfl) i3 hS ?_
  refine a_p 16 tK rfl rfl rfl rfl (by kernel_rfl) i3 hS ?_
  refine a_end (by kernel_rfl) ?_
  refine xS (cR (x1_ rfl rfl ?_))
  exact ⟨by simp [c9], hE⟩
end Go.Proofs.Ytpoahmeacjggfaa
