/- Part 6 of the proof: rules, plain laws and walks, merged out of smaller texts. -/
import Derived.Test.YtpoahmeacjggfaaGreatQ5
namespace Go.Proofs.YtpoahmeacjggfaaGreat
open Go Rw Go.RowKit
set_option maxRecDepth 100000
theorem keys_spec (b : Nat) (w : World) : Calls Tryz.prog 24 #[.map (some b)] w (Ret fun r w' => r = .func (.func 36) #[] #[.pointer (some ⟨w.heap.size, 0, none⟩)] ∧ w' = w.alloc (.cells #[.map (some b)] 53) ∧ Ext w w') :=
 (callsIn_wide.1 (Tryz.maps_Keys_24 (some b) w)).mono (fun e w' h => h.1 ▸ ⟨rfl, h.2, h.2 ▸ ext_alloc _ _⟩)
theorem sorted_spec (b : Nat) (l : List (ByteArray × Bool)) (w w2 : World) (hw2 : w2 = w.alloc (.cells #[.map (some b)] 53)) (hm : MapL (fun x : Bool => Value.bool x) w b l) (hn : NK 1000000000 l) (M : Nat → Prop) (Lw : Low M w2) :
  Calls Tryz.prog 23 #[.func (.func 36) #[] #[.pointer (some ⟨w.heap.size, 0, none⟩)]] w2 (Ret fun r w' => Sl M w' r (sortB (l.map (·.1))) ∧ Ext w2 w') := by
 obtain ⟨D, hown, hsz, hpm⟩ := maps_own (k := 9) (P := Tryz.prog) Tryz.underlying9 hm (by have := hn.1; simp only [maxLen]; omega) (fun p hp => by have := hn.2 p hp; simp only [maxLen]; omega)
 have hc := callsIn_wide.1 (Tryz.slices_Sorted_keys_23_24 b _ D _ w hown (by have := hn.1; simp only [maxLen]; omega) (by have := hn.1; omega))
 rw [← hw2] at hc
 refine hc.mono ?_
 rintro _ w' ⟨v, ss, rfl, hss, hrow, _, hE⟩
 have hpp : ss.Perm ((l.map (·.1)).map (·.data.toList)) := by rw [List.map_map]; exact hss.trans hpm
 have hsort : (ss.mergeSort leB).map strT = sortB (l.map (·.1)) := sort_of_perm hpp
 have hlen : (sortB (l.map (·.1))).length = ss.length := by rw [← hsort, List.length_map, List.length_mergeSort]
 have hll : ss.length = l.length := by rw [hpp.length_eq]; simp
 refine ⟨row_texts (B := w2.heap.size) (e := 9) ?_ (by have := hn.1; omega) (fun x hx => ?_) Lw, hE⟩
 ·rw [hlen, ← hsort, List.map_map]
  exact hrow
 ·obtain ⟨p, hp, rfl⟩ := List.mem_map.1 ((sortB_perm _).mem_iff.1 hx)
  exact hn.2 p hp
theorem free_spec (t : Tm) (M : Nat → Prop) (w : World) (v : Value) (ht : Rep.R M w v t) (hlow0 : Low M w) (hz : AnnS t) (hn9 : nsz t ≤ 400000000) :
  Calls Tryz.prog 12 #[v] w (Ret fun r w' => Sl M w' r (bif rightT t false then freeS t else []) ∧ Ext w w') := by
 have hnk := (NK.down t (rep_names t ht) 0 ([], []) ⟨lR _, fun p hp => by cases hp⟩).mono (m := 1000000000) (by omega)
 have Lw := hlow0
 have hB := lR w.heap.size
 have hE := Below.refl w.heap.size w
 have hsub : ∀ b, M b → M b := fun _ h => h
 obtain ⟨akv, kv, rfl, op, nm, ag, n64, ha, hk⟩ := tm_open ht
 refine cN (n := 16) Tryz.func12 rfl rfl rfl ?_
 refine q0 ?_
 refine lC (o_box rfl rfl rfl ?_)
 intro b1 w1 hb_b1 ew1 h1
 replace h1 : Box _ b1 31 [.int .u8 t.op, .string t.name, .string t.arg, .int .i64 t.n, .bool t.has, .int .u8 t.ann.op, .string t.ann.name, .int .i64 t.ann.n, akv, kv] := h1
 replace h1 := h1.at (nO Lw hb_b1)
 replace hE := ew1.bl hE hB
 replace ht := Rep.Y ht ew1
 replace ha := Rep.Y ha ew1
 replace hk := hk.Y ew1
 replace Lw := Lw.Y ew1
 replace hB := ew1.z hB
 refine lP 1 tK rfl (q1 (cS (q0 ?_)))
 refine lC (oL tK (fun j v hv => h1.cell j v hv) rfl rfl rfl rfl rfl rfl ?_)
 refine lC (oK fo21 rfl rfl rfl (tRight_spec t _ _ _ ht Lw hz) ?_)
 rintro _ w2 ⟨rfl, ew2⟩
 replace hE := ew2.bl hE hB
 replace ht := Rep.Y ht ew2
 replace ha := Rep.Y ha ew2
 replace hk := hk.Y ew2
 replace h1 := h1.Y ew2
 replace Lw := Lw.Y ew2
 replace hB := ew2.z hB
 refine lP 1 tK rfl (q1 ?_)
 refine c_ifB _ rfl (fun hr => ?_) (fun hr => ?_)
 ·refine q0 (lP 1 tK rfl (q1 (cR (xR (x1_ rfl rfl ?_)))))
  exact ⟨by rw [show rightT t false = false by simpa using hr]; exact sl_nil, hE⟩
 refine cK (xS (q0 ?_))
 refine lC (o_mkmap (κ := ByteArray) (ν := Int) (va := (fun x : Int => Value.int .i64 x)) rfl rfl ?_)
 intro bm w3 qbm ew3 ltbm hbm
 have sw3 := Stp.add ew3 Lw hB (lQ qbm.symm) ltbm
 have hm : OM (κ := ByteArray) (fun x : Int => Value.int .i64 x) w.heap.size (Rw.Add M bm) w3 bm [] := OM.mk' hbm qbm hB
 replace hE := hE.trans sw3.below
 replace ht := Rep.sp ht sw3
 replace ha := Rep.sp ha sw3
 replace hk := hk.sp sw3
 replace h1 := h1.sp sw3
 replace hsub := sw3.sb hsub
 replace Lw := sw3.low
 replace hB := sw3.z hB
 refine lC (o_mkmap (κ := ByteArray) (ν := Bool) (va := (fun x : Bool => Value.bool x)) rfl rfl ?_)
 intro fm w4 qfm ew4 ltfm hfm
 have ne_hm_hf : bm ≠ fm := by have := hm.lt; omega
 have sw4 := Stp.add ew4 Lw hB (lQ qfm.symm) ltfm
 have hf : OM (κ := ByteArray) (fun x : Bool => Value.bool x) w.heap.size (Rw.Add (Rw.Add M bm) fm) w4 fm [] := OM.mk' hfm qfm hB
 replace hm := hm.sp sw4 (ew4.block bm hm.lt)
 replace hE := hE.trans sw4.below
 replace ht := Rep.sp ht sw4
 replace ha := Rep.sp ha sw4
 replace hk := hk.sp sw4
 replace h1 := h1.sp sw4
 replace hsub := sw4.sb hsub
 replace Lw := sw4.low
 replace hB := sw4.z hB
 refine lC (o_build (cells := [.map (some bm), .map (some fm)]) (css := [[.map (some bm)], [.map (some fm)]]) bd55 rfl rfl rfl rfl rfl ?_)
 refine lC (o_new tK rfl rfl rfl ?_)
 intro np w5 qnp ew5 hnp
 have nnp := nO Lw qnp
 refine lC (o_st tK hnp rfl rfl rfl rfl (by intro u hu; simp [Value.cells] at hu; rcases hu with rfl | rfl <;> rfl) rfl rfl ?_)
 intro w6 hnp uw6 bew6
 have ew6 : Ext w4 w6 := ew5.trans (bew6 _ (lQ qnp.symm))
 replace hm := hm.Y Lw hB ew6
 replace hf := hf.Y Lw hB ew6
 replace hE := ew6.bl hE hB
 replace ht := Rep.Y ht ew6
 replace ha := Rep.Y ha ew6
 replace hk := hk.Y ew6
 replace h1 := h1.Y ew6
 replace Lw := Lw.Y ew6
 replace hB := ew6.z hB
 replace hnp := hnp.at nnp
 refine q1 (q0 ?_)
 refine lC (oL tK (fun j v hv => h1.cell j v hv) rfl rfl rfl rfl rfl rfl ?_)
 refine lC (oK fo22 rfl rfl rfl (down_spec t 0 ([], []) (Rw.Add (Rw.Add M bm) fm) _ w.heap.size _ np bm fm false (by simpa using hr) ht hnp hm hf (ne_hm_hf) Lw hB (fun s => ⟨Int.le_refl _, Int.le_refl _⟩) (by omega)) ?_)
 rintro _ w7 ⟨rfl, hmw7, hfw7, sw7, kw7⟩
 replace hE := hE.trans sw7.below
 replace ht := Rep.sp ht sw7
 replace ha := Rep.sp ha sw7
 replace hk := hk.sp sw7
 replace h1 := h1.sp sw7
 replace hnp := hnp.sp sw7
 replace hsub := sw7.sb hsub
 replace Lw := sw7.low
 replace hB := sw7.z hB
 replace hm := hmw7
 replace hf := hfw7
 clear hmw7 hfw7
 refine q1 (q0 (lP 1 tK rfl ?_))
 refine lC (oD tK (hnp.cell 1 _ rfl) rfl rfl rfl rfl rfl ?_)
 have hfk := hf.map
 refine lC (oK fo24 rfl rfl rfl (keys_spec _ _) ?_)
 rintro _ w8 ⟨rfl, hkw8, ew8⟩
 replace hm := hm.Y Lw hB ew8
 replace hf := hf.Y Lw hB ew8
 replace hE := ew8.bl hE hB
 replace ht := Rep.Y ht ew8
 replace ha := Rep.Y ha ew8
 replace hk := hk.Y ew8
 replace h1 := h1.Y ew8
 replace hnp := hnp.Y ew8
 replace Lw := Lw.Y ew8
 replace hB := ew8.z hB
 refine lC (oK fo23 rfl rfl rfl (sorted_spec fm _ _ _ hkw8 hfk hnk (Rw.Add (Rw.Add M bm) fm) Lw) ?_)
 rintro vhs w9 ⟨hs, ew9⟩
 replace hm := hm.Y Lw hB ew9
 replace hf := hf.Y Lw hB ew9
 replace hE := ew9.bl hE hB
 replace ht := Rep.Y ht ew9
 replace ha := Rep.Y ha ew9
 replace hk := hk.Y ew9
 replace h1 := h1.Y ew9
 replace hnp := hnp.Y ew9
 replace Lw := Lw.Y ew9
 replace hB := ew9.z hB
 refine lP 1 tK rfl (q1 (cR (x1_ rfl rfl ?_)))
 refine ⟨?_, hE⟩
 rw [show rightT t false = true by simpa using hr]
 exact hs.wk (fun b hb => hsub b)
end Go.Proofs.YtpoahmeacjggfaaGreat
namespace Rw
open Go Go.RowKit
open Go Go.RowKit
/-! ## Texts in order -/
def leS (x y : ByteArray) : Bool := sLt x y || decide (x = y)
theorem bytesLess_lt : ∀ a b : List UInt8, Go.Op.bytesLess a b = decide (a < b)
  | [], [] => by simp [Go.Op.bytesLess]
  | [], _ :: _ => by simp [Go.Op.bytesLess]
  | _ :: _, [] => by simp [Go.Op.bytesLess]
  | x :: a, y :: b => by
    have ih := bytesLess_lt a b
    rw [Go.Op.bytesLess, ih, Bool.eq_iff_iff]
    simp [List.cons_lt_cons_iff]
theorem leS_iff (x y : ByteArray) : leS x y = true ↔ x.data.toList ≤ y.data.toList := by
  unfold leS sLt
  rw [bytesLess_lt, Bool.or_eq_true, decide_eq_true_eq, decide_eq_true_eq, List.le_iff_lt_or_eq]
  refine or_congr Iff.rfl ⟨fun h => by rw [h], fun h => ?_⟩
  cases x; cases y
  exact congrArg ByteArray.mk (Array.toList_inj.1 h)
theorem leS_refl (x : ByteArray) : leS x x = true := (leS_iff x x).2 (List.le_refl _)
theorem leS_trans {x y z : ByteArray} (h : leS x y = true) (k : leS y z = true) : leS x z = true := (leS_iff x z).2 (List.le_trans ((leS_iff x y).1 h) ((leS_iff y z).1 k))
theorem leS_anti {x y : ByteArray} (h : leS x y = true) (k : leS y x = true) : x = y := by
  have := List.le_antisymm ((leS_iff x y).1 h) ((leS_iff y x).1 k)
  cases x; cases y
  exact congrArg ByteArray.mk (Array.toList_inj.1 this)
theorem leS_total (x y : ByteArray) : leS x y = true ∨ leS y x = true := by
  rw [leS_iff, leS_iff]; exact List.le_total _ _
def LtS (x y : ByteArray) : Prop := leS x y = true ∧ x ≠ y
theorem LtS.of_not {x y : ByteArray} (h : ¬ leS x y = true) : LtS y x := ⟨(leS_total x y).resolve_left h, fun e => h (e ▸ leS_refl _)⟩
theorem LtS.of_le {x y z : ByteArray} (h : leS x y = true) (k : LtS y z) : LtS x z := ⟨leS_trans h k.1, fun e => k.2 (leS_anti k.1 (e ▸ h))⟩
/-- Rising. -/
def Ris (l : List ByteArray) : Prop := l.Pairwise LtS
theorem Ris.nodup {l : List ByteArray} (h : Ris l) : l.Nodup := h.imp fun h => h.2
theorem Ris.snoc {l : List ByteArray} {x : ByteArray} (h : Ris l) (k : ∀ y ∈ l, LtS y x) : Ris (l ++ [x]) := List.pairwise_append.2 ⟨h, List.pairwise_singleton _ _, fun a ha b hb => by rw [List.mem_singleton.1 hb]; exact k a ha⟩
theorem sortB_ris {l r : List ByteArray} (hl : l.Nodup) (hr : Ris r) (h : ∀ x, x ∈ l ↔ x ∈ r) : sortB l = r := by
  have hp : (sortB l).Perm r := (sortB_perm l).trans ((List.perm_ext_iff_of_nodup hl hr.nodup).2 h)
  have hs : (sortB l).Pairwise (fun a b => leS a b = true) := by
    unfold sortB
    rw [List.pairwise_map]
    have tr : ∀ a b c : List UInt8, leB a b = true → leB b c = true → leB a c = true := fun a b c h1 h2 => by simp only [leB, decide_eq_true_eq] at *; exact List.le_trans h1 h2
    have to : ∀ a b : List UInt8, (leB a b || leB b a) = true := fun a b => by simp only [leB, Bool.or_eq_true, decide_eq_true_eq]; exact List.le_total a b
    refine (List.pairwise_mergeSort tr to _).imp fun {a b} h => ?_
    rw [leS_iff]
    simpa [leB, strT] using h
  exact List.Perm.eq_of_pairwise (le := fun a b => leS a b = true) (fun a b _ _ h1 h2 => leS_anti h1 h2) hs (hr.imp fun h => h.1) hp
/-! ## The document's lists -/
def without (l : List ByteArray) (s : ByteArray) : List ByteArray := l.filter fun x => !decide (x = s)
/-- One more text is gone through. -/
def stW (s : ByteArray) (st : List ByteArray × Bool) (y : ByteArray) : List ByteArray × Bool :=
  ((if y = s then (if st.2 = false ∧ leS s y = true then st.1 ++ [s] else st.1) else (if st.2 = false ∧ leS s y = true then st.1 ++ [s] else st.1) ++ [y]), st.2 || leS s y)
def withP (l : List ByteArray) (s : ByteArray) : List ByteArray × Bool := l.foldl (stW s) ([], false)
def withL (l : List ByteArray) (s : ByteArray) : List ByteArray := if (withP l s).2 then (withP l s).1 else (withP l s).1 ++ [s]
theorem withP_step {l : List ByteArray} {i : Nat} (h : i < l.length) (s : ByteArray) : withP (l.take (i + 1)) s = stW s (withP (l.take i) s) l[i] := by
  unfold withP
  rw [List.take_succ_eq_append_getElem h, List.foldl_append]; rfl
theorem withP_len (s : ByteArray) : ∀ (l : List ByteArray) (i : Nat), i ≤ l.length → (withP (l.take i) s).1.length + (bif (withP (l.take i) s).2 then 0 else 1) ≤ i + 1 := by
  intro l i
  induction i with
  | zero => intro _; exact lR _
  | succ i ih =>
    intro hi
    have h := ih (by omega)
    rw [withP_step (by omega)]
    unfold stW
    cases hb : (withP (l.take i) s).2 <;> cases hc : leS s l[i] <;> simp only [hb, hc] at h ⊢ <;> split <;> simp at h ⊢ <;> omega
theorem withL_len (l : List ByteArray) (s : ByteArray) : (withL l s).length ≤ l.length + 1 := by
  have h := withP_len s l l.length (lR _)
  rw [List.take_of_length_le (lR _)] at h
  unfold withL
  cases hb : (withP l s).2 <;> rw [hb] at h <;> simp at h ⊢ <;> omega
structure WInv (s : ByteArray) (p : List ByteArray) (st : List ByteArray × Bool) : Prop where
  ris : Ris st.1
  mem : ∀ z, z ∈ st.1 ↔ z ∈ p ∨ (st.2 = true ∧ z = s)
  no : st.2 = false → ∀ y ∈ p, LtS y s
  yes : st.2 = true → ∃ y ∈ p, leS s y = true
theorem winv_step {s y : ByteArray} {p : List ByteArray} {st : List ByteArray × Bool} (h : WInv s p st) (hy : ∀ x ∈ p, LtS x y) : WInv s (p ++ [y]) (stW s st y) := by
  obtain ⟨out, fl⟩ := st
  cases fl with
  | true =>
    obtain ⟨y', hy', hs⟩ := h.yes rfl
    have hlt : LtS s y := LtS.of_le hs (hy y' hy')
    have hne : ¬ y = s := fun e => hlt.2 e.symm
    have e : stW s (out, true) y = (out ++ [y], true) := by unfold stW; simp [hne]
    rw [e]
    refine ⟨h.ris.snoc fun z hz => ?_, fun z => ?_, fun e => (by cases e), fun _ => ⟨y', List.mem_append_left _ hy', hs⟩⟩
    · rcases (h.mem z).1 hz with h1 | ⟨_, rfl⟩
      · exact hy z h1
      · exact hlt
    · have := h.mem z
      simp only [List.mem_append, List.mem_singleton] at this ⊢
      rw [this]
      constructor
      · rintro ((h1 | h1) | h1)
        · exact .inl (.inl h1)
        · exact .inr h1
        · exact .inl (.inr h1)
      · rintro ((h1 | h1) | h1)
        · exact .inl (.inl h1)
        · exact .inr h1
        · exact .inl (.inr h1)
  | false =>
    have hout : ∀ z, z ∈ out ↔ z ∈ p := fun z => by have := h.mem z; simpa using this
    cases hc : leS s y with
    | false =>
      have hlt : LtS y s := LtS.of_not (by rw [hc]; decide)
      have e : stW s (out, false) y = (out ++ [y], false) := by unfold stW; simp [hc, hlt.2]
      rw [e]
      refine ⟨h.ris.snoc fun z hz => hy z ((hout z).1 hz), fun z => ?_, fun _ x hx => ?_, fun e => by cases e⟩
      · simp only [List.mem_append, List.mem_singleton, hout]; simp
      · rcases List.mem_append.1 hx with h1 | h1
        · exact h.no rfl x h1
        · rw [List.mem_singleton.1 h1]; exact hlt
    | true =>
      have hr : Ris (out ++ [s]) := h.ris.snoc fun z hz => h.no rfl z ((hout z).1 hz)
      by_cases hys : y = s
      · have e : stW s (out, false) y = (out ++ [s], true) := by unfold stW; simp [hc, hys, leS_refl]
        rw [e]
        refine ⟨hr, fun z => ?_, fun e => (by cases e), fun _ => ⟨y, by simp, hc⟩⟩
        simp only [List.mem_append, List.mem_singleton, hout, hys]; simp
      · have e : stW s (out, false) y = (out ++ [s] ++ [y], true) := by unfold stW; simp [hc, hys]
        rw [e]
        refine ⟨hr.snoc fun z hz => ?_, fun z => ?_, fun e => (by cases e), fun _ => ⟨y, by simp, hc⟩⟩
        · rcases List.mem_append.1 hz with h1 | h1
          · exact hy z ((hout z).1 h1)
          · rw [List.mem_singleton.1 h1]; exact ⟨hc, fun e => hys e.symm⟩
        · simp only [List.mem_append, List.mem_singleton, hout]
          constructor
          · rintro ((h1 | h1) | h1)
            · exact .inl (.inl h1)
            · exact .inr ⟨trivial, h1⟩
            · exact .inl (.inr h1)
          · rintro ((h1 | h1) | ⟨_, h1⟩)
            · exact .inl (.inl h1)
            · exact .inr h1
            · exact .inl (.inr h1)
theorem winv (s : ByteArray) {l : List ByteArray} (h : Ris l) : WInv s l (withP l s) := by
  have key : ∀ i ≤ l.length, WInv s (l.take i) (withP (l.take i) s) := by
    intro i
    induction i with
    | zero => intro _; exact ⟨List.Pairwise.nil, fun z => by simp [withP], fun _ y hy => (by cases hy), fun e => by cases e⟩
    | succ i ih =>
      intro hi
      rw [withP_step (by omega), List.take_succ_eq_append_getElem (by omega)]
      refine winv_step (ih (by omega)) fun x hx => ?_
      obtain ⟨j, hj, rfl⟩ := List.getElem_of_mem hx
      rw [List.length_take] at hj
      rw [List.getElem_take]
      exact List.pairwise_iff_getElem.1 h j i (by omega) (by omega) (by omega)
  have := key l.length (lR _)
  rwa [List.take_of_length_le (lR _)] at this
theorem withL_law (s : ByteArray) {l : List ByteArray} (h : Ris l) : Ris (withL l s) ∧ ∀ z, z ∈ withL l s ↔ z ∈ l ∨ z = s := by
  have hi := winv s h
  unfold withL
  cases hb : (withP l s).2 with
  | true =>
    rw [if_pos rfl]
    exact ⟨hi.ris, fun z => by rw [hi.mem z, hb]; simp⟩
  | false =>
    rw [if_neg (by decide)]
    have hm : ∀ z, z ∈ (withP l s).1 ↔ z ∈ l := fun z => by rw [hi.mem z, hb]; simp
    exact ⟨hi.ris.snoc fun z hz => hi.no hb z ((hm z).1 hz), fun z => by rw [List.mem_append, hm z, List.mem_singleton]⟩
/-- Each of a list's texts. -/
def allW (l acc : List ByteArray) : List ByteArray := l.foldl withL acc
theorem allW_step {l : List ByteArray} {k : Nat} (h : k < l.length) (acc : List ByteArray) : allW (l.take (k + 1)) acc = withL (allW (l.take k) acc) l[k] := by
  unfold allW
  rw [List.take_succ_eq_append_getElem h, List.foldl_append]; rfl
theorem allW_len : ∀ (l acc : List ByteArray), (allW l acc).length ≤ acc.length + l.length
  | [], _ => lR _
  | s :: l, acc => by
    have h1 := allW_len l (withL acc s)
    have h2 := withL_len acc s
    show (allW l (withL acc s)).length ≤ _
    rw [List.length_cons]; omega
theorem allW_law : ∀ (l acc : List ByteArray), Ris acc → Ris (allW l acc) ∧ ∀ z, z ∈ allW l acc ↔ z ∈ acc ∨ z ∈ l
  | [], acc, h => ⟨h, fun z => by simp [allW]⟩
  | s :: l, acc, h => by
    obtain ⟨h1, h2⟩ := withL_law s h
    obtain ⟨h3, h4⟩ := allW_law l (withL acc s) h1
    refine ⟨h3, fun z => ?_⟩
    show z ∈ allW l (withL acc s) ↔ _
    rw [h4, h2, List.mem_cons, or_assoc]
/-! ## The document's Free -/
/-- What of a kid's names is free above it: once, and then. -/
def cutA (op : Int) (arg : ByteArray) (l : List ByteArray) : List ByteArray := if op = 35 ∨ op = 36 ∨ op = 49 ∨ op = 50 then without l arg else l
def cutN (op : Int) (name : ByteArray) (i : Nat) (l : List ByteArray) : List ByteArray := if op = 36 ∨ (op = 38 ∧ i = 1) then without l name else l
def unionK (op : Int) (name arg : ByteArray) : Nat → List (List ByteArray) → List ByteArray → List ByteArray
  | _, [], acc => acc
  | i, l :: r, acc => unionK op name arg (i + 1) r (allW (cutN op name i (cutA op arg l)) acc)
def freeR : Tm → List ByteArray
  | .mk op name arg n has ann kids => if op = 32 then [name] else unionK op name arg 0 (kids.map freeR) []
theorem freeR_eq (t : Tm) : freeR t = if t.op = 32 then [t.name] else unionK t.op t.name t.arg 0 (t.kids.map freeR) [] := by cases t; rw [freeR]; rfl
def freeTo (t : Tm) (i : Nat) : List ByteArray := unionK t.op t.name t.arg 0 ((t.kids.take i).map freeR) []
theorem unionK_snoc (op : Int) (name arg : ByteArray) (x : List ByteArray) : ∀ (l : List (List ByteArray)) (i : Nat) (acc : List ByteArray), unionK op name arg i (l ++ [x]) acc = allW (cutN op name (i + l.length) (cutA op arg x)) (unionK op name arg i l acc)
  | [], i, acc => rfl
  | y :: l, i, acc => by
    show unionK op name arg (i + 1) (l ++ [x]) _ = _
    rw [unionK_snoc op name arg x l, List.length_cons, show i + 1 + l.length = i + (l.length + 1) by omega]; rfl
theorem freeTo_step {t : Tm} {i : Nat} (h : i < t.kids.length) : freeTo t (i + 1) = allW (cutN t.op t.name i (cutA t.op t.arg (freeR t.kids[i]))) (freeTo t i) := by
  unfold freeTo
  rw [List.take_succ_eq_append_getElem h, List.map_append, List.map_singleton, unionK_snoc, List.length_map, List.length_take, Nat.zero_add, Nat.min_eq_left (by omega)]
theorem freeTo_all {t : Tm} (h : t.op ≠ 32) : freeTo t t.kids.length = freeR t := by
  rw [freeR_eq, if_neg h, freeTo, List.take_of_length_le (lR _)]
theorem without_len (l : List ByteArray) (s : ByteArray) : (without l s).length ≤ l.length := List.length_filter_le _ _
theorem cut_len (op : Int) (name arg : ByteArray) (i : Nat) (l : List ByteArray) : (cutA op arg l).length ≤ l.length ∧ (cutN op name i (cutA op arg l)).length ≤ l.length := by
  have h1 : (cutA op arg l).length ≤ l.length := by unfold cutA; split <;> first | exact without_len _ _ | exact lR _
  refine ⟨h1, Nat.le_trans ?_ h1⟩
  unfold cutN; split <;> first | exact without_len _ _ | exact lR _
theorem freeR_len (t : Tm) : (freeR t).length ≤ nsz t := by
  refine Tm.ind (p := fun t => (freeR t).length ≤ nsz t) (fun t ih => ?_) t
  by_cases ho : t.op = 32
  · rw [freeR_eq, if_pos ho]; exact nsz_pos t
  · have key : ∀ i ≤ t.kids.length, (freeTo t i).length ≤ nszs (t.kids.take i) := by
      intro i
      induction i with
      | zero => intro _; exact lR _
      | succ i ihi =>
        intro hi
        have h1 := ihi (by omega)
        have h2 := ih t.kids[i] (gM _)
        have h3 := (cut_len t.op t.name t.arg i (freeR t.kids[i])).2
        have h4 := allW_len (cutN t.op t.name i (cutA t.op t.arg (freeR t.kids[i]))) (freeTo t i)
        rw [freeTo_step (by omega), nszs_take (by omega)]
        omega
    have h5 := key t.kids.length (lR _)
    rw [freeTo_all ho, List.take_of_length_le (lR _)] at h5
    have := nsz_eq t
    omega
theorem freeTo_len (t : Tm) {i : Nat} (hi : i ≤ t.kids.length) : (freeTo t i).length ≤ nszs (t.kids.take i) := by
  induction i with
  | zero => exact lR _
  | succ i ihi =>
    have h1 := ihi (by omega)
    have h2 := freeR_len t.kids[i]
    have h3 := (cut_len t.op t.name t.arg i (freeR t.kids[i])).2
    have h4 := allW_len (cutN t.op t.name i (cutA t.op t.arg (freeR t.kids[i]))) (freeTo t i)
    rw [freeTo_step (by omega), nszs_take (by omega)]
    omega
theorem freeTo_ris (t : Tm) {i : Nat} (hi : i ≤ t.kids.length) : Ris (freeTo t i) := by
  induction i with
  | zero => exact List.Pairwise.nil
  | succ i ihi =>
    rw [freeTo_step (by omega)]
    exact (allW_law _ _ (ihi (by omega))).1
theorem freeR_ris (t : Tm) : Ris (freeR t) := by
  by_cases ho : t.op = 32
  · rw [freeR_eq, if_pos ho]; exact List.pairwise_singleton _ _
  · rw [← freeTo_all ho]; exact freeTo_ris t (lR _)
theorem freeTo_mem (t : Tm) (z : ByteArray) {i : Nat} (hi : i ≤ t.kids.length) : z ∈ freeTo t i ↔ ∃ j, ∃ h : j < i, z ∈ cutN t.op t.name j (cutA t.op t.arg (freeR t.kids[j])) := by
  induction i with
  | zero => exact ⟨fun h => (by cases h), fun ⟨j, h, _⟩ => by omega⟩
  | succ i ihi =>
    rw [freeTo_step (by omega), (allW_law _ _ (freeTo_ris t (by omega))).2, ihi (by omega)]
    constructor
    · rintro (⟨j, h, hz⟩ | hz)
      · exact ⟨j, by omega, hz⟩
      · exact ⟨i, by omega, hz⟩
    · rintro ⟨j, h, hz⟩
      by_cases e : j = i
      · subst e; exact .inr hz
      · exact .inl ⟨j, by omega, hz⟩
open Go Go.RowKit
def keysL {ν : Type} (l : List (ByteArray × ν)) : List ByteArray := l.map (·.1)
theorem putK_mem {ν : Type} (l : List (ByteArray × ν)) (k : ByteArray) (v : ν) (z : ByteArray) : z ∈ keysL (putK l k v) ↔ z ∈ keysL l ∨ z = k := by
  unfold putK keysL
  cases hi : l.findIdx? (fun p => decide (p.1 = k)) with
  | none => simp
  | some i =>
    rw [List.findIdx?_eq_some_iff_getElem] at hi
    obtain ⟨hil, h1, _⟩ := hi
    have h1' : l[i].1 = k := of_decide_eq_true h1
    have : (l.set i (k, v)).map (·.1) = l.map (·.1) := by
      rw [List.map_set]
      apply List.ext_getElem?
      intro j
      rw [List.getElem?_set]
      by_cases e : i = j
      · subst e; simp [hil, h1']
      · simp [e]
    simp only [this]
    refine ⟨.inl, fun h => h.elim id fun e => ?_⟩
    subst e
    rw [← h1']
    exact List.mem_map.2 ⟨l[i], gM _, rfl⟩
theorem times_zero (ss : List ByteArray) (z : ByteArray) : times ss z = 0 ↔ z ∉ ss := by
  unfold times
  constructor
  · intro h hz
    have : 0 < (ss.filter fun s => decide (z = s)).length := List.length_pos_iff.2 (fun e => by
      have : z ∈ ss.filter fun s => decide (z = s) := List.mem_filter.2 ⟨hz, by simp⟩
      rw [e] at this; cases this)
    omega
  · intro h
    rw [show ss.filter (fun s => decide (z = s)) = [] from List.filter_eq_nil_iff.2 fun s hs => by simp; rintro rfl; exact h hs]
    rfl
def NN (l : List (ByteArray × Int)) : Prop := ∀ s, 0 ≤ bnd l s
theorem NN.incs {l : List (ByteArray × Int)} (h : NN l) (ss : List ByteArray) : NN (incs l ss 1) := fun s => by
  have h1 := times_le ss s
  have h2 := h s
  rw [bnd_incs]; omega
theorem bnd_zero {l : List (ByteArray × Int)} (h : NN l) (ss : List ByteArray) (z : ByteArray) : bnd (incs l ss 1) z = 0 ↔ bnd l z = 0 ∧ z ∉ ss := by
  have h1 := times_le ss z
  have h2 := h z
  rw [bnd_incs, ← times_zero]; omega
/-- What a walk over an expression does to the names that are free. -/
def Adds (g : BF → BF) (z : ByteArray) (F : Prop) : Prop := ∀ x : BF, NN x.1 → ((z ∈ keysL (g x).2 ↔ z ∈ keysL x.2 ∨ (bnd x.1 z = 0 ∧ F)) ∧ NN (g x).1 ∧ bnd (g x).1 z = bnd x.1 z)
theorem Adds.within {g : BF → BF} {z : ByteArray} {F : Prop} (h : Adds g z F) (ss : List ByteArray) {x : BF} (hx : NN x.1) : z ∈ keysL (withF g ss x).2 ↔ z ∈ keysL x.2 ∨ (bnd x.1 z = 0 ∧ z ∉ ss ∧ F) := by
  have h1 := (h (Rw.incs x.1 ss 1, x.2) (hx.incs ss)).1
  show z ∈ keysL (g (Rw.incs x.1 ss 1, x.2)).2 ↔ _
  rw [h1, bnd_zero hx, and_assoc]
theorem without_mem (l : List ByteArray) (s z : ByteArray) : z ∈ without l s ↔ z ∈ l ∧ ¬ z = s := by simp [without]
theorem free_mem {t : Tm} (ho : t.op ≠ 32) (z : ByteArray) : z ∈ freeR t ↔ ∃ j, ∃ h : j < t.kids.length, z ∈ freeR t.kids[j] ∧ ¬ ((t.op = 35 ∨ t.op = 36 ∨ t.op = 49 ∨ t.op = 50) ∧ z = t.arg) ∧ ¬ ((t.op = 36 ∨ (t.op = 38 ∧ j = 1)) ∧ z = t.name) := by
  rw [← freeTo_all ho, freeTo_mem t z (lR _)]
  refine exists_congr fun j => exists_congr fun h => ?_
  have hA : ∀ l, z ∈ cutA t.op t.arg l ↔ z ∈ l ∧ ¬ ((t.op = 35 ∨ t.op = 36 ∨ t.op = 49 ∨ t.op = 50) ∧ z = t.arg) := by
    intro l
    unfold cutA
    split
    · rename_i h; rw [without_mem]; simp [h]
    · rename_i h; simp [h]
  have hN : ∀ l, z ∈ cutN t.op t.name j l ↔ z ∈ l ∧ ¬ ((t.op = 36 ∨ (t.op = 38 ∧ j = 1)) ∧ z = t.name) := by
    intro l
    unfold cutN
    split
    · rename_i h; rw [without_mem]; simp [h]
    · rename_i h; simp [h]
  rw [hN, hA, and_assoc]
theorem down_adds (t : Tm) : ∀ b, rightT t b = true → ∀ z, Adds (downF t) z (z ∈ freeR t) := by
  refine Tm.ind (p := fun t => ∀ b, rightT t b = true → ∀ z, Adds (downF t) z (z ∈ freeR t)) (fun t ih => ?_) t
  intro b hr z x hx
  obtain ⟨hrl, hrk, hro, _⟩ := right_kids hr
  have hsame : ∀ s, bnd (downF t x).1 s = bnd x.1 s := fun s => down_same t x s
  refine ⟨?_, fun s => by rw [hsame]; exact hx s, hsame z⟩
  have ihk : ∀ k ∈ t.kids, Adds (downF k) z (z ∈ freeR k) := fun k hk => let ⟨b, hb⟩ := hrk k hk; ih k hk b hb z
  by_cases h32 : t.op = 32
  · rw [down_var h32, freeR_eq, if_pos h32, List.mem_singleton]
    by_cases hb : bnd x.1 t.name = 0
    · rw [if_pos hb, putK_mem]
      refine or_congr Iff.rfl ⟨fun e => ⟨by rw [e]; exact hb, e⟩, fun h => h.2⟩
    · rw [if_neg hb]
      exact ⟨.inl, fun h => h.elim id fun ⟨h1, h2⟩ => absurd (h2 ▸ h1) hb⟩
  rw [free_mem h32]
  by_cases h1 : t.op = 35 ∨ t.op = 36 ∨ t.op = 49 ∨ t.op = 50
  · have hl : t.kids.length = 1 := by
      have h8 := shp_one (op := t.op) (by omega)
      have := hrl h8.2
      omega
    have h0 : 0 < t.kids.length := by omega
    have hk := ihk _ (gM h0)
    have hex : (∃ j, ∃ h : j < t.kids.length, z ∈ freeR t.kids[j] ∧ ¬ ((t.op = 35 ∨ t.op = 36 ∨ t.op = 49 ∨ t.op = 50) ∧ z = t.arg) ∧ ¬ ((t.op = 36 ∨ (t.op = 38 ∧ j = 1)) ∧ z = t.name)) ↔ (z ∈ freeR t.kids[0] ∧ ¬ z = t.arg ∧ ¬ (t.op = 36 ∧ z = t.name)) := by
      constructor
      · rintro ⟨j, h, h2, h3, h4⟩
        obtain rfl : j = 0 := by omega
        exact ⟨h2, fun e => h3 ⟨h1, e⟩, fun e => h4 ⟨.inl e.1, e.2⟩⟩
      · rintro ⟨h2, h3, h4⟩
        exact ⟨0, h0, h2, fun e => h3 e.2, fun e => h4 ⟨e.1.elim id (fun h => absurd h.2 (by decide)), e.2⟩⟩
    rw [hex]
    by_cases h36 : t.op = 36
    · rw [down_rec h36 h0, hk.within _ hx]
      simp only [List.mem_cons, List.not_mem_nil, or_false, not_or, h36, true_and]
      refine or_congr Iff.rfl (and_congr Iff.rfl ?_)
      exact ⟨fun ⟨⟨a, b⟩, c⟩ => ⟨c, b, a⟩, fun ⟨c, b, a⟩ => ⟨⟨a, b⟩, c⟩⟩
    · have h35 : t.op = 35 ∨ t.op = 49 ∨ t.op = 50 := by clear hex hk ihk ih hrk hsame; omega
      rw [down_one h35 h0, hk.within _ hx]
      simp only [List.mem_singleton, h36, false_and, not_false_eq_true, and_true]
      refine or_congr Iff.rfl (and_congr Iff.rfl ?_)
      exact ⟨fun ⟨a, b⟩ => ⟨b, a⟩, fun ⟨a, b⟩ => ⟨b, a⟩⟩
  · by_cases h38 : t.op = 38
    · have hl : t.kids.length = 2 := by
        have h8 := shp_two (op := t.op) (by omega)
        have := hrl h8.2
        omega
      have h1k : 1 < t.kids.length := by omega
      have h0k : 0 < t.kids.length := by omega
      have hk0 := ihk _ (gM h0k) x hx
      have hk1 := ihk _ (gM h1k)
      rw [down_let h38 h1k, hk1.within _ hk0.2.1, hk0.1, hk0.2.2]
      simp only [List.mem_singleton]
      constructor
      · rintro ((h | ⟨h2, h3⟩) | ⟨h2, h3, h4⟩)
        · exact .inl h
        · exact .inr ⟨h2, 0, h0k, h3, fun e => h1 e.1, fun e => by rcases e.1 with e1 | e1 <;> omega⟩
        · exact .inr ⟨h2, 1, h1k, h4, fun e => h1 e.1, fun e => h3 e.2⟩
      · rintro (h | ⟨h2, j, hj, h3, h4, h5⟩)
        · exact .inl (.inl h)
        · by_cases hj0 : j = 0
          · subst hj0; exact .inl (.inr ⟨h2, h3⟩)
          · obtain rfl : j = 1 := by omega
            exact .inr ⟨h2, fun e => h5 ⟨.inr ⟨h38, rfl⟩, e⟩, h3⟩
    · rw [down_else (by omega)]
      have hex : (∃ j, ∃ h : j < t.kids.length, z ∈ freeR t.kids[j] ∧ ¬ ((t.op = 35 ∨ t.op = 36 ∨ t.op = 49 ∨ t.op = 50) ∧ z = t.arg) ∧ ¬ ((t.op = 36 ∨ (t.op = 38 ∧ j = 1)) ∧ z = t.name)) ↔ (∃ k ∈ t.kids, z ∈ freeR k) := by
        constructor
        · rintro ⟨j, h, h2, _⟩
          exact ⟨_, gM h, h2⟩
        · rintro ⟨k, hk, h2⟩
          obtain ⟨j, h, rfl⟩ := List.getElem_of_mem hk
          exact ⟨j, h, h2, fun e => h1 e.1, fun e => e.1.elim (fun h => h1 (.inr (.inl h))) (fun h => h38 h.1)⟩
      rw [hex]
      have hfold : ∀ (l : List Tm), (∀ k ∈ l, Adds (downF k) z (z ∈ freeR k)) → ∀ x : BF, NN x.1 → (z ∈ keysL (foldD l x).2 ↔ z ∈ keysL x.2 ∨ (bnd x.1 z = 0 ∧ ∃ k ∈ l, z ∈ freeR k)) := by
        intro l
        induction l with
        | nil => intro _ x _; exact ⟨.inl, fun h => h.elim id fun ⟨_, k, hk, _⟩ => by cases hk⟩
        | cons k l ihl =>
          intro h x hx
          have hk := h k List.mem_cons_self x hx
          show z ∈ keysL (foldD l (downF k x)).2 ↔ _
          rw [ihl (fun y hy => h y (List.mem_cons_of_mem _ hy)) _ hk.2.1, hk.1, hk.2.2, or_assoc, ← and_or_left]
          refine or_congr Iff.rfl (and_congr Iff.rfl ?_)
          simp
      exact hfold t.kids ihk x hx
theorem down_nodup (t : Tm) : ∀ x : BF, (keysL x.2).Nodup → (keysL (downF t x).2).Nodup := by
  refine Tm.ind (p := fun t => ∀ x : BF, (keysL x.2).Nodup → (keysL (downF t x).2).Nodup) (fun t ih => ?_) t
  intro x hx
  have hfold : ∀ (l : List Tm), (∀ k ∈ l, k ∈ t.kids) → ∀ (x : BF), (keysL x.2).Nodup → (keysL ((l.map downF).foldl (fun x g => g x) x).2).Nodup := by
    intro l
    induction l with
    | nil => intro _ x h; exact h
    | cons k l ihl =>
      intro hk x h
      rw [List.map_cons, List.foldl_cons]
      exact ihl (fun y hy => hk y (List.mem_cons_of_mem _ hy)) _ (ih k (hk k List.mem_cons_self) x h)
  have hhead : ∀ (x : BF), (keysL x.2).Nodup → (keysL ((t.kids.map downF).headD id x).2).Nodup := by
    intro x h
    cases hk : t.kids with
    | nil => exact h
    | cons k l => exact ih k (by rw [hk]; exact List.mem_cons_self) x h
  have hone : ∀ (x : BF), (keysL x.2).Nodup → (keysL (((t.kids.map downF)[1]?).getD id x).2).Nodup := by
    intro x h
    cases hk : (t.kids.map downF)[1]? with
    | none => exact h
    | some g =>
      rw [List.getElem?_map] at hk
      cases hk2 : t.kids[1]? with
      | none => rw [hk2] at hk; cases hk
      | some k => rw [hk2] at hk; cases hk; exact ih k (List.mem_of_getElem? hk2) x h
  rw [downF_eq]
  unfold downK
  split
  · split
    · exact putK_keys _ _ _ hx
    · exact hx
  · split
    · exact hhead _ hx
    · split
      · exact hhead _ hx
      · split
        · exact hone _ (hhead _ hx)
        · exact hfold _ (fun k h => h) _ hx
theorem freeS_law {t : Tm} {b : Bool} (h : rightT t b = true) : freeS t = freeR t := by
  unfold freeS
  refine sortB_ris (down_nodup t ([], []) List.nodup_nil) (freeR_ris t) fun z => ?_
  have h1 := (down_adds t b h z ([], []) (fun s => Int.le_refl _)).1
  show z ∈ keysL _ ↔ _
  rw [h1]
  exact ⟨fun h => h.elim (fun h => by cases h) fun h => h.2, fun h => .inr ⟨rfl, h⟩⟩
/-! ## Values; what is static -/
end Rw
namespace Go.Proofs.YtpoahmeacjggfaaGreat
open Go Rw Go.RowKit
set_option maxRecDepth 100000
theorem partsS_size (op : Int) : (partsS op).size < 100 := by
 by_cases h : op < 32 ∨ 52 ≤ op
 ·rw [partsS, if_pos h]; decide
 ·rcases op_cases h with e | e | e | e | e | e | e | e | e | e | e | e | e | e | e | e | e | e | e | e <;> subst e <;> decide
theorem refTRight_spec : ∀ (t : Tm) (arm : Bool) (M : Nat → Prop) (w : World) (v : Value), Rep.R M w v t → Low M w → AnnS t → Calls Tryz.prog 14 #[v, .bool arm] w (Ret fun r w' => r = .bool (refT t arm) ∧ Ext w w') := by
 refine Tm.ind fun t ih => ?_
 intro arm M w v ht Lw hz
 have hE := Below.refl w.heap.size w
 have hB := lR w.heap.size
 obtain ⟨akv, kv, rfl, op, nm, ag, n64, ha, hk⟩ := tm_open ht
 have hlt := hk.lt
 have hps : (partsS t.op).size < 100 := partsS_size t.op
 refine cN (n := 107) Tryz.func14 rfl rfl rfl ?_
 refine q0 ?_
 refine lC (o_box rfl rfl rfl ?_)
 intro b2 w1 hb_b2 ew1 h2
 replace h2 : Box _ b2 31 [.int .u8 t.op, .string t.name, .string t.arg, .int .i64 t.n, .bool t.has, .int .u8 t.ann.op, .string t.ann.name, .int .i64 t.ann.n, akv, kv] := h2
 replace h2 := h2.at (nO Lw hb_b2)
 replace hE := ew1.bl hE hB
 replace ht := Rep.Y ht ew1
 replace ha := Rep.Y ha ew1
 replace hk := hk.Y ew1
 replace Lw := Lw.Y ew1
 replace hB := ew1.z hB
 refine lP 1 tK rfl (q1 (q0 (lP 1 tK rfl ?_)))
 refine lC (oD tK (h2.cell 0 _ rfl) rfl rfl rfl rfl rfl ?_)
 refine lC (oK fo27 rfl rfl rfl (partsS_spec t.op op M _ Lw) ?_)
 rintro _ w2 ⟨rfl, ew2⟩
 replace hE := ew2.bl hE hB
 replace ht := Rep.Y ht ew2
 replace ha := Rep.Y ha ew2
 replace hk := hk.Y ew2
 replace h2 := h2.Y ew2
 replace Lw := Lw.Y ew2
 replace hB := ew2.z hB
 refine lP 1 tK rfl (q1 ?_)
 refine c_cut (X := Unit) (fun _u => [(2, .pointer (some ⟨b2, 0, none⟩)), (5, .string (partsS t.op))]) (fun _u w' => refT t arm = (bif decide ((partsS t.op) = ⟨#[99]⟩) then caseL (refL t.kids) else decide (t.kids.length = countE (partsS t.op)) && allL (refL t.kids)) ∧ At M w' b2 0 [.int .u8 t.op, .string t.name, .string t.arg, .int .i64 t.n, .bool t.has, .int .u8 t.ann.op, .string t.ann.name, .int .i64 t.ann.n, akv, kv] ∧ Sl M w' kv t.kids ∧ Low M w' ∧ Below w.heap.size w w' ∧ w.heap.size ≤ w'.heap.size) ?_ ?_
 ·refine q0 (lP 3 tK rfl ?_)
  refine lS 15 _ rfl (fun c1 => ?_) (fun c1 => ?_)
  ·refine lP 17 tK rfl (q1 (cI rfl (q0 (lP 1 tK rfl (q1 (cR (xR (x1_ rfl rfl ?_))))))))
   exact ⟨by rw [refT_eq]; clear ih; unfold armsB; simp_all, hE⟩
  refine lP 2 tK rfl ?_
  refine lC (oD tK (h2.cell 0 _ rfl) rfl rfl rfl rfl rfl ?_)
  refine lP 2 tK rfl ?_
  refine lS 20 _ rfl (fun c2 => ?_) (fun c2 => ?_)
  ·refine lP 4 tK rfl ?_
   refine lC (o_bne tK rfl rfl rfl rfl rfl rfl ?_)
   refine lP 2 tK rfl ?_
   refine l_split 27 _ rfl (fun c3 => ?_) (fun c3 => ?_)
   ·refine lP 5 tK rfl (q1 (cI rfl (q0 (lP 1 tK rfl (q1 (cR (xR (x1_ rfl rfl ?_))))))))
    exact ⟨by rw [refT_eq]; clear ih; unfold armsB; simp_all, hE⟩
   refine lC (oL tK (fun j v hv => h2.cell j v hv) rfl rfl rfl rfl rfl rfl ?_)
   refine lP 1 tK rfl ?_
   refine lC (oK fo28 rfl rfl rfl (partsR_spec t _ (by omega) _ _ _ ht Lw hz.self) ?_)
   rintro _ w3 ⟨rfl, ew3⟩
   replace hE := ew3.bl hE hB
   replace ht := Rep.Y ht ew3
   replace ha := Rep.Y ha ew3
   replace hk := hk.Y ew3
   replace h2 := h2.Y ew3
   replace Lw := Lw.Y ew3
   replace hB := ew3.z hB
   refine lP 2 tK rfl (q1 ?_)
   refine c_ifB _ rfl (fun c4 => ?_) (fun c4 => ?_)
   ·refine q0 (lP 1 tK rfl (q1 (cR (xR (x1_ rfl rfl ?_)))))
    exact ⟨by rw [refT_eq]; clear ih; unfold armsB; simp_all, hE⟩
   refine cK ?_
   have hhd : refT t arm = (bif decide ((partsS t.op) = ⟨#[99]⟩) then caseL (refL t.kids) else decide (t.kids.length = countE (partsS t.op)) && allL (refL t.kids)) := by
    rw [refT_eq]
    clear ih
    unfold armsB
    simp_all
   exact x_cut (()) (s2 rfl rfl) ⟨hhd, h2, hk, Lw, hE, hB⟩
  refine lP 1 tK rfl ?_
  refine lC (oD tK (h2.cell 0 _ rfl) rfl rfl rfl rfl rfl ?_)
  refine lP 2 tK rfl ?_
  refine lC (o_bne tK rfl rfl rfl rfl rfl rfl ?_)
  refine lP 2 tK rfl ?_
  refine l_split 27 _ rfl (fun c5 => ?_) (fun c5 => ?_)
  ·refine lP 5 tK rfl (q1 (cI rfl (q0 (lP 1 tK rfl (q1 (cR (xR (x1_ rfl rfl ?_))))))))
   exact ⟨by rw [refT_eq]; clear ih; unfold armsB; simp_all, hE⟩
  refine lC (oL tK (fun j v hv => h2.cell j v hv) rfl rfl rfl rfl rfl rfl ?_)
  refine lP 1 tK rfl ?_
  refine lC (oK fo28 rfl rfl rfl (partsR_spec t _ (by omega) _ _ _ ht Lw hz.self) ?_)
  rintro _ w4 ⟨rfl, ew4⟩
  replace hE := ew4.bl hE hB
  replace ht := Rep.Y ht ew4
  replace ha := Rep.Y ha ew4
  replace hk := hk.Y ew4
  replace h2 := h2.Y ew4
  replace Lw := Lw.Y ew4
  replace hB := ew4.z hB
  refine lP 2 tK rfl (q1 ?_)
  refine c_ifB _ rfl (fun c6 => ?_) (fun c6 => ?_)
  ·refine q0 (lP 1 tK rfl (q1 (cR (xR (x1_ rfl rfl ?_)))))
   exact ⟨by rw [refT_eq]; clear ih; unfold armsB; simp_all, hE⟩
  refine cK ?_
  have hhd : refT t arm = (bif decide ((partsS t.op) = ⟨#[99]⟩) then caseL (refL t.kids) else decide (t.kids.length = countE (partsS t.op)) && allL (refL t.kids)) := by
   rw [refT_eq]
   clear ih
   unfold armsB
   simp_all
  exact x_cut (()) (s2 rfl rfl) ⟨hhd, h2, hk, Lw, hE, hB⟩
 clear h2 hk ht ha Lw hE hB
 rintro _ w80 ⟨hhd, h2, hk, Lw, hE, hB⟩
 refine q0 (lP 1 tK rfl (q1 (cS (q0 (lP 1 tK rfl (q1 (cB ?_)))))))
 refine c_loop (X := Nat) (fun i => [(2, .pointer (some ⟨b2, 0, none⟩)), (5, .string (partsS t.op)), (6, .int .i64 (countTo (partsS t.op) i : Nat)), (7, .int .i64 (i : Nat))]) (fun i w' => i ≤ (partsS t.op).size ∧ At M w' b2 0 [.int .u8 t.op, .string t.name, .string t.arg, .int .i64 t.n, .bool t.has, .int .u8 t.ann.op, .string t.ann.name, .int .i64 t.ann.n, akv, kv] ∧ Sl M w' kv t.kids ∧ Low M w' ∧ Below w.heap.size w w' ∧ w.heap.size ≤ w'.heap.size) (fun i => (partsS t.op).size - i) (0) (s4 rfl rfl rfl rfl) ?_ ?_
 ·exact ⟨Nat.zero_le _, h2, hk, Lw, hE, hB⟩
 clear h2 hk Lw hE hB
 rintro i w5 ⟨hi, h2, hk, Lw, hE, hB⟩
 have hct := countTo_le (partsS t.op) i
 refine cS (q0 (lP 4 tK rfl (q1 ?_)))
 refine cP _ rfl (fun c7 => ?_) (fun c7 => ?_)
 ·refine cK (xS (cS (cB (q0 (lP 2 tK rfl ?_)))))
  have his : i < (partsS t.op).size := by omega
  obtain ⟨ch, hd⟩ : ∃ ch, (partsS t.op).data[i]? = some ch := ⟨_, Array.getElem?_eq_getElem (show i < (partsS t.op).data.size from his)⟩
  refine lC (o_si tK rfl rfl rfl rfl rfl hd rfl rfl ?_)
  refine lP 1 tK rfl (q1 ?_)
  refine cP _ rfl (fun c8 => ?_) (fun c8 => ?_)
  ·refine cG (lP 1 tK rfl ?_)
   refine lC (o_ai rfl rfl rfl (by omega) rfl rfl ?_)
   refine lP 1 tK rfl (q2 (xS (cG (lP 1 tK rfl ?_))))
   refine lC (o_ai rfl rfl rfl (by omega) rfl rfl ?_)
   refine lP 1 tK rfl (lN ?_)
   exact x_round (i + 1) (s4 rfl rfl (gN rfl (by rw [countTo_step hd, if_pos (UInt8.toNat_inj.1 (show ch.toNat = 101 by omega))]; omega)) (gN rfl (by omega))) ⟨by omega, h2, hk, Lw, hE, hB⟩ (by omega)
  refine cK (x_blk (xS (cG (lP 1 tK rfl ?_))))
  refine lC (o_ai rfl rfl rfl (by omega) rfl rfl ?_)
  refine lP 1 tK rfl (lN ?_)
  exact x_round (i + 1) (s4 rfl rfl (gN rfl (by rw [countTo_step hd, if_neg (fun e : ch = 101 => c8 (by rw [e]; rfl))]; omega)) (gN rfl (by omega))) ⟨by omega, h2, hk, Lw, hE, hB⟩ (by omega)
 refine c_exit (xE (xE (x_blkE (xS (cS (q0 (lP 2 tK rfl (q1 ?_))))))))
 refine cP _ rfl (fun c9 => ?_) (fun c9 => ?_)
 ·refine cS (q0 (lP 1 tK rfl ?_))
  refine lC (oD tK (h2.cell 9 _ rfl) rfl rfl rfl rfl rfl ?_)
  refine lC (o_len tK hk rfl rfl rfl rfl rfl ?_)
  refine lP 2 tK rfl ?_
  refine lS 51 _ rfl (fun c10 => ?_) (fun c10 => ?_)
  ·refine lP 7 tK rfl (q1 (cI rfl (q0 (lP 1 tK rfl (q1 (cR (xR (xR (x1_ rfl rfl ?_)))))))))
   refine ⟨?_, hE⟩
   rw [hhd, dT (by assumption), cond_true]
   by_cases h9 : t.kids.length = 0
   ·rw [List.eq_nil_of_length_eq_zero h9]; rfl
   ·first | (exfalso; omega) | (rw [caseL_step (by omega)]; clear ih; simp_all)
  refine lP 1 tK rfl ?_
  refine lC (oD tK (h2.cell 9 _ rfl) rfl rfl rfl rfl rfl ?_)
  have h0k : 0 < t.kids.length := by omega
  refine lC (o_ixS tK hk (gE h0k) rfl rfl rfl rfl rfl rfl rfl rfl rfl ?_)
  intro ebx eox eux hyx hX
  obtain ⟨akvx, kvx, rfl, opx, nmx, agx, n64x, hax, hkx⟩ := tm_open hyx
  replace hX : At M w5 ebx eox [.int .u8 t.kids[0].op, .string t.kids[0].name, .string t.kids[0].arg, .int .i64 t.kids[0].n, .bool t.kids[0].has, .int .u8 t.kids[0].ann.op, .string t.kids[0].ann.name, .int .i64 t.kids[0].ann.n, akvx, kvx] := hX
  refine lC (oL tK (fun j v hv => hX.cell j v hv) rfl rfl rfl rfl rfl rfl ?_)
  refine lC (oK fo14 rfl rfl rfl (ih _ (gM h0k) _ M _ _ hyx Lw (hz.kid (gM h0k))) ?_)
  rintro _ w6 ⟨rfl, ew6⟩
  replace hE := ew6.bl hE hB
  replace h2 := h2.Y ew6
  replace hk := hk.Y ew6
  replace hyx := Rep.Y hyx ew6
  replace hax := Rep.Y hax ew6
  replace hkx := hkx.Y ew6
  replace hX := hX.Y ew6
  replace Lw := Lw.Y ew6
  replace hB := ew6.z hB
  refine lP 2 tK rfl (q1 ?_)
  refine c_ifB _ rfl (fun c11 => ?_) (fun c11 => ?_)
  ·refine q0 (lP 1 tK rfl (q1 (cR (xR (xR (x1_ rfl rfl ?_))))))
   refine ⟨?_, hE⟩
   rw [hhd, dT (by assumption), cond_true]
   by_cases h9 : t.kids.length = 0
   ·rw [List.eq_nil_of_length_eq_zero h9]; rfl
   ·first | (exfalso; omega) | (rw [caseL_step (by omega)]; clear ih; simp_all)
  refine cK (xS (cS (q0 (lP 1 tK rfl (q1 (cB ?_))))))
  have h0k : 0 < t.kids.length := by omega
  have hcase : refT t arm = armsL (refL (t.kids.drop 1)) := by
   rw [hhd, dT (by assumption), cond_true, caseL_step h0k]; clear ih; simp_all
  refine c_loop (X := Nat) (fun i => [(2, .pointer (some ⟨b2, 0, none⟩)), (8, .int .i64 (i : Nat))]) (fun i w' => 1 ≤ i ∧ i ≤ t.kids.length ∧ refT t arm = armsL (refL (t.kids.drop i)) ∧ At M w' b2 0 [.int .u8 t.op, .string t.name, .string t.arg, .int .i64 t.n, .bool t.has, .int .u8 t.ann.op, .string t.ann.name, .int .i64 t.ann.n, akv, kv] ∧ Sl M w' kv t.kids ∧ Low M w' ∧ Below w.heap.size w w' ∧ w.heap.size ≤ w'.heap.size) (fun i => t.kids.length - i) (1) (s2 rfl rfl) ?_ ?_
  ·exact ⟨lR _, by omega, hcase, h2, hk, Lw, hE, hB⟩
  clear h2 hk Lw hE hB
  rintro i w7 ⟨hi1, hi, hinv, h2, hk, Lw, hE, hB⟩
  refine cS (q0 (lP 2 tK rfl ?_))
  refine lC (oD tK (h2.cell 9 _ rfl) rfl rfl rfl rfl rfl ?_)
  refine lC (o_len tK hk rfl rfl rfl rfl rfl ?_)
  refine lP 1 tK rfl (q1 ?_)
  refine cP _ rfl (fun c12 => ?_) (fun c12 => ?_)
  ·refine cK (xS (cS (cB (q0 (lP 1 tK rfl ?_)))))
   refine lC (oD tK (h2.cell 9 _ rfl) rfl rfl rfl rfl rfl ?_)
   refine lP 1 tK rfl ?_
   have hik : i < t.kids.length := by omega
   refine lC (o_ixS tK hk (gE hik) rfl rfl rfl rfl rfl rfl rfl rfl rfl ?_)
   intro ebx eox eux hyx hX
   obtain ⟨akvx, kvx, rfl, opx, nmx, agx, n64x, hax, hkx⟩ := tm_open hyx
   replace hX : At M w7 ebx eox [.int .u8 t.kids[i].op, .string t.kids[i].name, .string t.kids[i].arg, .int .i64 t.kids[i].n, .bool t.kids[i].has, .int .u8 t.kids[i].ann.op, .string t.kids[i].ann.name, .int .i64 t.kids[i].ann.n, akvx, kvx] := hX
   refine lC (oL tK (fun j v hv => hX.cell j v hv) rfl rfl rfl rfl rfl rfl ?_)
   refine lC (oK fo14 rfl rfl rfl (ih _ (gM hik) _ M _ _ hyx Lw (hz.kid (gM hik))) ?_)
   rintro _ w8 ⟨rfl, ew8⟩
   replace hE := ew8.bl hE hB
   replace h2 := h2.Y ew8
   replace hk := hk.Y ew8
   replace hyx := Rep.Y hyx ew8
   replace hax := Rep.Y hax ew8
   replace hkx := hkx.Y ew8
   replace hX := hX.Y ew8
   replace Lw := Lw.Y ew8
   replace hB := ew8.z hB
   refine lP 2 tK rfl ?_
   refine l_splitB 73 _ rfl (fun c13 => ?_) (fun c13 => ?_)
   ·refine lP 16 tK rfl (q1 (cI rfl (q0 (lP 1 tK rfl (q1 (cR (xB (xR (xR (xB (xR (xR (x1_ rfl rfl ?_)))))))))))))
    exact ⟨by rw [hinv, armsL_step hik]; clear ih; first | (rw [dT (show i + 1 < t.kids.length by omega)]; simp_all) | simp_all, hE⟩
   refine lP 1 tK rfl ?_
   refine lC (oD tK (h2.cell 9 _ rfl) rfl rfl rfl rfl rfl ?_)
   refine lP 1 tK rfl ?_
   refine lC (o_ixS tK hk (gE hik) rfl rfl rfl rfl rfl rfl rfl rfl rfl ?_)
   intro eby eoy euy hyy haty
   obtain ⟨akvy, kvy, rfl, opy, nmy, agy, n64y, hay, hky⟩ := tm_open hyy
   replace haty : At M w8 eby eoy [.int .u8 t.kids[i].op, .string t.kids[i].name, .string t.kids[i].arg, .int .i64 t.kids[i].n, .bool t.kids[i].has, .int .u8 t.kids[i].ann.op, .string t.kids[i].ann.name, .int .i64 t.kids[i].ann.n, akvy, kvy] := haty
   refine lP 1 tK rfl ?_
   refine lC (oD tK (haty.cell 0 _ rfl) rfl rfl rfl rfl rfl ?_)
   refine lP 2 tK rfl ?_
   refine lS 81 _ rfl (fun c14 => ?_) (fun c14 => ?_)
   ·refine lP 2 tK rfl ?_
    refine lC (oD tK (h2.cell 9 _ rfl) rfl rfl rfl rfl rfl ?_)
    refine lC (o_len tK hk rfl rfl rfl rfl rfl ?_)
    refine lC (o_ai rfl rfl rfl (by omega) rfl rfl ?_)
    refine lP 3 tK rfl (q1 ?_)
    refine cP _ rfl (fun c15 => ?_) (fun c15 => ?_)
    ·refine q0 (lP 1 tK rfl (q1 (cR (xB (xR (xR (xB (xR (xR (x1_ rfl rfl ?_))))))))))
     exact ⟨by rw [hinv, armsL_step hik]; clear ih; first | (rw [dT (show i + 1 < t.kids.length by omega)]; simp_all) | simp_all, hE⟩
    refine cK (x_blk (xS (cG (lP 1 tK rfl ?_))))
    refine lC (o_ai rfl rfl rfl (by omega) rfl rfl ?_)
    refine lP 1 tK rfl (lN ?_)
    exact x_round (i + 1) (s2 rfl (gN rfl (by omega))) ⟨by omega, by omega, by rw [hinv, armsL_step hik]; clear ih; first | (rw [dF (show ¬ i + 1 < t.kids.length by omega)]; simp_all) | simp_all, h2, hk, Lw, hE, hB⟩ (by omega)
   refine lP 8 tK rfl (q1 (c_ifF rfl (cK (x_blk (xS (cG (lP 1 tK rfl ?_)))))))
   refine lC (o_ai rfl rfl rfl (by omega) rfl rfl ?_)
   refine lP 1 tK rfl (lN ?_)
   exact x_round (i + 1) (s2 rfl (gN rfl (by omega))) ⟨by omega, by omega, by rw [hinv, armsL_step hik]; clear ih; first | (rw [dF (show ¬ i + 1 < t.kids.length by omega)]; simp_all) | simp_all, h2, hk, Lw, hE, hB⟩ (by omega)
  refine c_exit (xE (xE (x_blkE (xS (q0 (lP 1 tK rfl (q1 (cR (xR (x1_ rfl rfl ?_))))))))))
  exact ⟨by rw [hinv, armsL_end (by omega)], hE⟩
 refine cK (xS (cS (q0 (lP 1 tK rfl ?_))))
 refine lC (oD tK (h2.cell 9 _ rfl) rfl rfl rfl rfl rfl ?_)
 refine lC (o_len tK hk rfl rfl rfl rfl rfl ?_)
 refine lP 2 tK rfl (q1 ?_)
 refine c_ifN _ rfl (fun c16 => ?_) (fun c16 => ?_)
 ·refine q0 (lP 1 tK rfl (q1 (cR (xR (x1_ rfl rfl ?_)))))
  have hlen : t.kids.length ≠ countE (partsS t.op) := by rw [← countTo_all (s := (partsS t.op)) (i := i) (by omega)]; omega
  exact ⟨by rw [hhd, dF (by assumption), cond_false, dF hlen]; rfl, hE⟩
 refine cK (xS (cS (q0 (lP 1 tK rfl (q1 (cB ?_))))))
 have hlen : t.kids.length = countE (partsS t.op) := by rw [← countTo_all (s := (partsS t.op)) (i := i) (by omega)]; omega
 have hall : refT t arm = allL (refL (t.kids.drop 0)) := by
  rw [hhd, dF (by assumption), cond_false, dT hlen]; rfl
 have hcte : countTo (partsS t.op) i = t.kids.length := by rw [hlen, countTo_all (by omega)]
 have hgo : (countTo (partsS t.op) i : Int) = (t.kids.length : Int) := by omega
 refine c_loop (X := Nat) (fun j => [(2, .pointer (some ⟨b2, 0, none⟩)), (6, .int .i64 (t.kids.length : Int)), (9, .int .i64 (j : Nat))]) (fun j w' => j ≤ t.kids.length ∧ refT t arm = allL (refL (t.kids.drop j)) ∧ At M w' b2 0 [.int .u8 t.op, .string t.name, .string t.arg, .int .i64 t.n, .bool t.has, .int .u8 t.ann.op, .string t.ann.name, .int .i64 t.ann.n, akv, kv] ∧ Sl M w' kv t.kids ∧ Low M w' ∧ Below w.heap.size w w' ∧ w.heap.size ≤ w'.heap.size) (fun j => t.kids.length - j) (0) (s3 rfl (gN rfl hgo) rfl) ?_ ?_
 ·exact ⟨Nat.zero_le _, hall, h2, hk, Lw, hE, hB⟩
 clear h2 hk Lw hE hB
 rintro j w9 ⟨hj, hinv, h2, hk, Lw, hE, hB⟩
 refine cS (q0 (lP 3 tK rfl (q1 ?_)))
 refine cP _ rfl (fun c17 => ?_) (fun c17 => ?_)
 ·refine cK (xS (cS (cB (q0 (lP 1 tK rfl ?_)))))
  refine lC (oD tK (h2.cell 9 _ rfl) rfl rfl rfl rfl rfl ?_)
  refine lP 1 tK rfl ?_
  have hjk : j < t.kids.length := by omega
  refine lC (o_ixS tK hk (gE hjk) rfl rfl rfl rfl rfl rfl rfl rfl rfl ?_)
  intro ebx eox eux hyx hX
  obtain ⟨akvx, kvx, rfl, opx, nmx, agx, n64x, hax, hkx⟩ := tm_open hyx
  replace hX : At M w9 ebx eox [.int .u8 t.kids[j].op, .string t.kids[j].name, .string t.kids[j].arg, .int .i64 t.kids[j].n, .bool t.kids[j].has, .int .u8 t.kids[j].ann.op, .string t.kids[j].ann.name, .int .i64 t.kids[j].ann.n, akvx, kvx] := hX
  refine lC (oL tK (fun j v hv => hX.cell j v hv) rfl rfl rfl rfl rfl rfl ?_)
  refine lC (oK fo14 rfl rfl rfl (ih _ (gM hjk) _ M _ _ hyx Lw (hz.kid (gM hjk))) ?_)
  rintro _ w10 ⟨rfl, ew10⟩
  replace hE := ew10.bl hE hB
  replace h2 := h2.Y ew10
  replace hk := hk.Y ew10
  replace hyx := Rep.Y hyx ew10
  replace hax := Rep.Y hax ew10
  replace hkx := hkx.Y ew10
  replace hX := hX.Y ew10
  replace Lw := Lw.Y ew10
  replace hB := ew10.z hB
  refine lP 1 tK rfl (q1 ?_)
  refine c_ifB _ rfl (fun c18 => ?_) (fun c18 => ?_)
  ·refine q0 (lP 1 tK rfl (q1 (cR (xB (xR (xR (xB (xR (x1_ rfl rfl ?_)))))))))
   exact ⟨by rw [hinv, allL_step hjk]; clear ih; simp_all, hE⟩
  refine cK (x_blk (xS (cG (lP 1 tK rfl ?_))))
  refine lC (o_ai rfl rfl rfl (by omega) rfl rfl ?_)
  refine lP 1 tK rfl (lN ?_)
  exact x_round (j + 1) (s3 rfl rfl (gN rfl (by omega))) ⟨by omega, by rw [hinv, allL_step hjk]; clear ih; simp_all, h2, hk, Lw, hE, hB⟩ (by omega)
 refine c_exit (xE (xE (x_blkE (xS (q0 (lP 1 tK rfl (q1 (cR (x1_ rfl rfl ?_)))))))))
 exact ⟨by rw [hinv, allL_end (by omega)], hE⟩
theorem refTR_spec (t : Tm) (arm : Bool) (M : Nat → Prop) (w : World) (v : Value) (ht : Rep.R M w v t) (Lw : Low M w) (hz : AnnS t) :
  Calls Tryz.prog 14 #[v, .bool arm] w (Ret fun r w' => r = .bool (rightT t arm) ∧ Ext w w') := ref_right t arm ▸ refTRight_spec t arm M w v ht Lw hz
open Go Rw Go.RowKit
set_option maxRecDepth 100000
theorem nodes_spec : ∀ (t : Tm) (M : Nat → Prop) (w : World) (v : Value), Rep.R M w v t → Low M w → nsz t ≤ 2000000 → Calls Tryz.prog 5 #[v] w (Ret fun r w' => Sl M w' r (nodesL t) ∧ Ext w w') := by
 refine Tm.ind fun t ih => ?_
 intro M w v ht hlow0 hsz
 have Lw := hlow0
 have hB := lR w.heap.size
 have hE := Below.refl w.heap.size w
 have hsub : ∀ b, M b → M b := fun _ h => h
 obtain ⟨akv, kv, rfl, op, nm, ag, n64, ha, hk⟩ := tm_open ht
 have hps := nsz_eq t
 have hkl := len_nsz t.kids
 refine cN (n := 23) Tryz.func5 rfl rfl rfl ?_
 refine q0 ?_
 refine lC (o_box rfl rfl rfl ?_)
 intro b1 w1 hb_b1 ew1 h1
 replace h1 : Box _ b1 31 [.int .u8 t.op, .string t.name, .string t.arg, .int .i64 t.n, .bool t.has, .int .u8 t.ann.op, .string t.ann.name, .int .i64 t.ann.n, akv, kv] := h1
 replace h1 := h1.at (nO Lw hb_b1)
 replace hE := ew1.bl hE hB
 replace ht := Rep.Y ht ew1
 replace ha := Rep.Y ha ew1
 replace hk := hk.Y ew1
 replace Lw := Lw.Y ew1
 replace hB := ew1.z hB
 refine lP 1 tK rfl (q1 (q0 ?_))
 refine lC (oL tK (fun j v hv => h1.cell j v hv) rfl rfl rfl rfl rfl rfl ?_)
 refine lC (o_bs tK rfl rfl rfl rfl rfl rfl rfl (sz1 rfl) rfl rfl rfl ?_)
 intro bw2 w2 qbw2 ew2 hbw2
 have sw2 := Stp.add ew2 Lw hB (lQ qbw2.symm) hbw2.lt
 have le_bw2 := hB
 replace hE := hE.trans sw2.below
 replace ht := Rep.sp ht sw2
 replace ha := Rep.sp ha sw2
 replace hk := hk.sp sw2
 replace h1 := h1.sp sw2
 replace hsub := sw2.sb hsub
 replace Lw := sw2.low
 replace hB := sw2.z hB
 have ho := own_litS sw2 hbw2 (show Rs _ _ [_] [t] from ⟨ht, trivial⟩) qbw2 le_bw2 (by simp [maxLen])
 refine lP 1 tK rfl (q1 (cS (q0 (lP 1 tK rfl (q1 (cB ?_))))))
 refine c_loop3 (X := Nat) (Y := Value) (Z := Nat → Prop) (fun i v M1 => [(1, .pointer (some ⟨b1, 0, none⟩)), (3, v), (4, .int .i64 (i : Nat))]) (fun i v M1 w' => i ≤ t.kids.length ∧ OwnSl 31 w.heap.size M1 w' v (t :: (t.kids.take i).flatMap nodesL) ∧ At M1 w' b1 0 [.int .u8 t.op, .string t.name, .string t.arg, .int .i64 t.n, .bool t.has, .int .u8 t.ann.op, .string t.ann.name, .int .i64 t.ann.n, akv, kv] ∧ Sl M1 w' kv t.kids ∧ Low M1 w' ∧ (∀ b, M b → M1 b) ∧ Below w.heap.size w w' ∧ w.heap.size ≤ w'.heap.size) (fun i v M1 => t.kids.length - i) (0) (.slice (some ⟨bw2, 0, none⟩) 1 1) ((Rw.Add M bw2)) (s3 rfl rfl rfl) ?_ ?_
 ·exact ⟨Nat.zero_le _, ho, h1, hk, Lw, hsub, hE, hB⟩
 clear ho h1 ht ha hk Lw hsub hE hB
 rintro i v M1 w3 ⟨hi, ho, h1, hk, Lw, hsub, hE, hB⟩
 refine cS (q0 (lP 2 tK rfl ?_))
 refine lC (oD tK (h1.cell 9 _ rfl) rfl rfl rfl rfl rfl ?_)
 refine lC (o_len tK hk rfl rfl rfl rfl rfl ?_)
 refine lP 1 tK rfl (q1 ?_)
 refine cP _ rfl (fun c1 => ?_) (fun c1 => ?_)
 ·refine cK (xS (cS (cB (cG (lP 2 tK rfl ?_)))))
  refine lC (oD tK (h1.cell 9 _ rfl) rfl rfl rfl rfl rfl ?_)
  refine lP 1 tK rfl ?_
  have hik : i < t.kids.length := by omega
  have hp1 := nsz_get hik
  have hp2 := take_nsz t.kids i
  refine lC (o_ixS tK hk (gE hik) rfl rfl rfl rfl rfl rfl rfl rfl rfl ?_)
  intro ebx eox eux hyx hX
  obtain ⟨akvx, kvx, rfl, opx, nmx, agx, n64x, hax, hkx⟩ := tm_open hyx
  replace hX : At M1 w3 ebx eox [.int .u8 t.kids[i].op, .string t.kids[i].name, .string t.kids[i].arg, .int .i64 t.kids[i].n, .bool t.kids[i].has, .int .u8 t.kids[i].ann.op, .string t.kids[i].ann.name, .int .i64 t.kids[i].ann.n, akvx, kvx] := hX
  refine lC (oL tK (fun j v hv => hX.cell j v hv) rfl rfl rfl rfl rfl rfl ?_)
  refine lC (oK fo5 rfl rfl rfl (ih _ (gM hik) _ _ _ hyx Lw (by omega)) ?_)
  rintro vhr w4 ⟨hr, ew4⟩
  replace ho := ho.Y Lw hB ew4
  replace hE := ew4.bl hE hB
  replace h1 := h1.Y ew4
  replace hk := hk.Y ew4
  replace hyx := Rep.Y hyx ew4
  replace hax := Rep.Y hax ew4
  replace hkx := hkx.Y ew4
  replace hX := hX.Y ew4
  replace Lw := Lw.Y ew4
  replace hB := ew4.z hB
  have e1 : (t :: (t.kids.take i).flatMap nodesL).length = nszs (t.kids.take i) + 1 := rfl
  have e2 : (nodesL t.kids[i]).length = nsz t.kids[i] := rfl
  have e3 := take_nsz t.kids (i + 1)
  rw [nszs_take hik] at e3
  refine lC (o_app tK ho hr Lw hB rfl rfl rfl rfl rfl rfl rfl (by omega) (by rw [e1, e2]; show _ * 136 ≤ _; omega) rfl rfl ?_)
  intro vw5 w5 Mw5 hw5 sw5 frw5 blw5
  replace hE := hE.trans sw5.below
  replace h1 := h1.sp sw5
  replace hk := hk.sp sw5
  replace hyx := Rep.sp hyx sw5
  replace hax := Rep.sp hax sw5
  replace hkx := hkx.sp sw5
  replace hX := hX.sp sw5
  replace hr := hr.sp sw5
  replace hsub := sw5.sb hsub
  replace Lw := sw5.low
  replace hB := sw5.z hB
  replace ho := hw5
  clear hw5
  refine lP 1 tK rfl (q2 (xS (cG (lP 1 tK rfl ?_))))
  refine lC (o_ai rfl rfl rfl (by omega) rfl rfl ?_)
  refine lP 1 tK rfl (lN ?_)
  exact x_round3 (i + 1) (vw5) (Mw5) (s3 rfl rfl rfl) ⟨by omega, by rw [ntake_step hik]; exact ho, h1, hk, Lw, hsub, hE, hB⟩ (by omega)
 refine c_exit (xE (xE (x_blkE (xS (q0 (lP 2 tK rfl (q1 (cR (x1_ rfl rfl ?_)))))))))
 obtain rfl : i = t.kids.length := by omega
 rw [List.take_of_length_le (lR _), ← nodesL_eq] at ho
 exact ⟨ho.sl (by have : (nodesL t).length = nsz t := rfl; omega) hlow0 hsub, hE⟩
end Go.Proofs.YtpoahmeacjggfaaGreat
namespace Rw
open Go Go.RowKit
theorem Ret.out {R : Value → World → Prop} {e : Ending} {w : World} (h : Ret R e w) : ∃ v, e = .returned v ∧ R v w := by
  cases e with
  | returned v => exact ⟨v, rfl, h⟩
  | _ => exact h.elim
/-! ## What the form's reach pays -/
open Go Go.RowKit
open Go.Proofs.YtpoahmeacjggfaaGreat.Rows (uptoBulk uptoBulkAll uptoSmall)
section
variable {H : Type}
theorem bulk_one (d : DataW H) : 1 ≤ uptoBulk d := by
  cases d with
  | lit l => cases l <;> simp [uptoBulk]
  | nil => simp [uptoBulk]
  | ptr d => simp [uptoBulk]
  | slice elems spare => simp [uptoBulk]
  | agg parts => simp [uptoBulk]
  | iface t d => simp [uptoBulk]
  | map entries => simp [uptoBulk]
  | held h => simp [uptoBulk]
theorem bulk_all : ∀ (l : List (DataW H)), uptoBulkAll l = (l.map uptoBulk).sum
  | [] => by simp [uptoBulkAll]
  | x :: r => by simp [uptoBulkAll, bulk_all r]
theorem bulk_str (l : List UInt8) : uptoBulk (DataW.lit (H := H) (.string l)) = l.length + 1 := by simp [uptoBulk]
theorem bulk_slice (l s : List (DataW H)) : uptoBulk (.slice l s) = uptoBulkAll l + uptoBulkAll s + 1 := by simp [uptoBulk]
theorem bulk_agg (l : List (DataW H)) : uptoBulk (.agg l) = uptoBulkAll l + 1 := by simp [uptoBulk]
theorem bulk_len (l : List (DataW H)) : l.length ≤ uptoBulkAll l := by
  induction l with
  | nil => simp
  | cons x r ih => have := bulk_one x; simp only [uptoBulkAll, List.length_cons]; omega
theorem bulk_mem {l : List (DataW H)} {d : DataW H} (h : d ∈ l) : uptoBulk d ≤ uptoBulkAll l := by
  induction l with
  | nil => cases h
  | cons x r ih =>
    simp only [uptoBulkAll]
    rcases List.mem_cons.1 h with e | e
    · subst e; omega
    · have := ih e; omega
theorem bulk_each {l : List (DataW H)} (h : uptoSmall H l = true) {j : Nat} {d : DataW H} (hd : l[j]? = some d) : uptoBulk d ≤ 1048576 := by
  have h1 : uptoBulkAll l ≤ 1048576 := by simpa [uptoSmall] using h
  exact Nat.le_trans (bulk_mem (List.mem_of_getElem? hd)) h1
/-- A type's readings, of bulk up to N, are things of α, of size at most that bulk. -/
structure OpensD (H : Type) {α : Type} [Rep α] (P : Program) (t : TypeId) (N : Nat) (sz : α → Nat) : Prop where
  cells : P.cellsOf t = Rep.sz α
  read : ∀ (enc : TypeId × Value → H) (w : World) (fuel : Nat) (cs : List Value) (d : DataW H) (ps : List MemPlace), DataW.trod enc P w 0 (fun _ => true) true fuel t cs = some (d, ps) → uptoBulk d ≤ N →
    ∃ (v : Value) (x : α), v.cells.toList = cs ∧ Rep.R NoM w v x ∧ sz x ≤ uptoBulk d
variable {P : Program}
theorem opensD_int {t : TypeId} (N : Nat) (ht : P.underlying t = some (.int .i64)) (hc : P.cellsOf t = 1) : OpensD H (α := Int) P t N (fun _ => 1) := by
  refine ⟨hc, fun enc w fuel cs d ps h _ => ?_⟩
  obtain ⟨n, rfl, _, hw⟩ := DataW.trod_int ht h
  refine ⟨.int .i64 n, n, rfl, ⟨rfl, ?_⟩, bulk_one d⟩
  have : -9223372036854775808 ≤ n ∧ n ≤ 9223372036854775807 := by simpa [Lit.wf, IntKind.min, IntKind.max, IntKind.signed, IntKind.bits] using hw
  exact this
theorem opensD_string {t : TypeId} (N : Nat) (hN : N < 140737488355328) (ht : P.underlying t = some .string) (hc : P.cellsOf t = 1) : OpensD H (α := ByteArray) P t N (fun s => 1 + s.size) := by
  refine ⟨hc, fun enc w fuel cs d ps h hQ => ?_⟩
  obtain ⟨s, rfl, hx, _⟩ := DataW.trod_string ht h
  cases hx
  rw [bulk_str] at hQ ⊢
  have e : s.data.toList.length = s.size := by simp
  exact ⟨.string s, s, rfl, ⟨rfl, by omega⟩, by omega⟩
theorem opensD_slice {α : Type} [Rep α] {sz : α → Nat} {t e : TypeId} (N : Nat) (hN : N < 140737488355328) (ht : P.underlying t = some (.slice e)) (hc : P.cellsOf t = 1) (he : OpensD H P e (N - 1) sz) : OpensD H (α := List α) P t N (fun l => 1 + (l.map sz).sum) := by
  refine ⟨hc, fun enc w fuel cs d ps h hQ => ?_⟩
  rcases Go.Deep.open_slice ht h with ⟨rfl, _⟩ | ⟨a, len, cap, m, n, D, Pl, rfl, _, hl, _, hm, hx, hel⟩
  · exact ⟨.slice none 0 0, [], rfl, sl_nil, by have := bulk_one d; simpa using this⟩
  · have hm' : m = cap := by simpa using hm
    subst hm'
    have hd : d = .slice ((List.range len).map D) ((List.range (m - len)).map fun j => D (len + j)) := congrArg Prod.fst hx
    subst hd
    rw [bulk_slice] at hQ ⊢
    have hlen := bulk_len ((List.range len).map D)
    rw [List.length_map, List.length_range] at hlen
    have hlen' : len < 140737488355328 := by omega
    rw [he.cells] at hel
    have each : ∀ i : Fin len, ∃ y : Value × α, w.cells? 0 (a.add (i.1 * Rep.sz α)) (Rep.sz α) = some y.1.cells.toList ∧ Rep.R NoM w y.1 y.2 ∧ sz y.2 ≤ uptoBulk (D i.1) := by
      intro i
      obtain ⟨cs', h1, h2⟩ := hel i.1 (lT i.2 hl)
      have hi : uptoBulk (D i.1) ≤ uptoBulkAll ((List.range len).map D) := bulk_mem (List.mem_map.2 ⟨i.1, List.mem_range.2 i.2, rfl⟩)
      obtain ⟨v, x, hv, hR, hp⟩ := he.read enc w n cs' _ _ h2 (by omega)
      exact ⟨(v, x), by rw [hv]; exact h1, hR, hp⟩
    obtain ⟨f, hf⟩ := Classical.axiomOfChoice each
    refine ⟨.slice (some a) len m, List.ofFn fun i => (f i).2, rfl, ⟨some a, m, by simp, by simpa using hlen', by simpa using hl, ?_⟩, ?_⟩
    · by_cases h0 : len = 0
      · subst h0; left; simp
      · right
        have hpos : 0 < Rep.sz α := Rep.pos
        obtain ⟨_, _, hc0⟩ := World.cells?_some (hf ⟨0, by omega⟩).1
        have hc00 := hc0 0 hpos
        have hlen0 := Rep.size (hf ⟨0, by omega⟩).2.1
        obtain ⟨b, off, spot⟩ := a
        have hsome : ∃ v, w.cell? ⟨b, off, spot⟩ = some v := by
          have e1 : (Addr.add ⟨b, off, spot⟩ (0 * Rep.sz α)).add 0 = ⟨b, off, spot⟩ := by simp [Addr.add]
          rw [e1] at hc00
          refine ⟨_, hc00.trans (gE (by simpa [hlen0] using hpos))⟩
        obtain ⟨v0, hv0⟩ := hsome
        have hsp : spot = none := by
          cases spot with
          | none => rfl
          | some s => simp [World.cell?] at hv0; split at hv0 <;> simp at hv0
        subst hsp
        have hb : b < w.heap.size := by
          rcases Nat.lt_or_ge b w.heap.size with h | h
          · exact h
          · simp [World.cell?, Array.getElem?_eq_none h] at hv0
        refine ⟨b, off, rfl, fun i x hi => ?_⟩
        have hi' : i < len := by
          have := (List.getElem?_eq_some_iff.1 hi).1
          simpa using this
        have hxe : x = (f ⟨i, hi'⟩).2 := by
          rw [List.getElem?_ofFn, dif_pos hi'] at hi
          simpa using hi.symm
        subst hxe
        refine ⟨(f ⟨i, hi'⟩).1, (hf ⟨i, hi'⟩).2.1, hb, fun h => h.elim, fun j c hj => ?_⟩
        obtain ⟨_, hl2, hc2⟩ := World.cells?_some (hf ⟨i, hi'⟩).1
        have hj' : j < Rep.sz α := by rw [← hl2]; exact (List.getElem?_eq_some_iff.1 hj).1
        have := hc2 j hj'
        rw [addr_add, addr_add, hj] at this
        exact this
    · rw [bulk_all, List.map_map]
      have e1 : (List.range len).map (uptoBulk ∘ D) = List.ofFn fun i : Fin len => uptoBulk (D i.1) := by
        apply List.ext_getElem
        · simp
        · intro i h1 h2
          simp
      have e2 : (List.ofFn fun i => (f i).2).map sz = List.ofFn fun i : Fin len => sz (f i).2 := by rw [List.map_ofFn]; rfl
      rw [e1, e2]
      have key : ∀ (n : Nat) (g h : Fin n → Nat), (∀ i, g i ≤ h i) → (List.ofFn g).sum ≤ (List.ofFn h).sum := by
        intro n
        induction n with
        | zero => intro g h _; simp
        | succ n ih =>
          intro g h hgh
          rw [List.ofFn_succ, List.ofFn_succ, List.sum_cons, List.sum_cons]
          have := ih (fun i => g i.succ) (fun i => h i.succ) (fun i => hgh _)
          have := hgh 0
          omega
      have := key len _ _ (fun i => (hf i).2.2)
      omega
/-- A type's size: its parts and their names. -/
def tsz (t : Ty) : Nat := ((partsL t).map fun x => 1 + x.name.size).sum
theorem tsz_eq (t : Ty) : tsz t = 1 + t.name.size + (t.kids.map tsz).sum := by
  unfold tsz
  rw [partsL_eq, List.map_cons, List.sum_cons]
  congr 1
  induction t.kids with
  | nil => rfl
  | cons k r ih => rw [List.flatMap_cons, List.map_append, List.sum_append, ih, List.map_cons, List.sum_cons]
theorem psz_tsz (t : Ty) : psz t ≤ tsz t := by
  show (partsL t).length ≤ _
  unfold tsz
  induction partsL t with
  | nil => simp
  | cons k r ih => simp only [List.length_cons, List.map_cons, List.sum_cons]; omega
theorem opensD_ty {t tOp tStr tInt tSl : TypeId} {f0 f1 f2 f3 : Field} (ht : P.underlying t = some (.struct #[f0, f1, f2, f3])) (h0 : f0.offset = 0 ∧ f0.type = tOp) (h1 : f1.offset = 1 ∧ f1.type = tStr) (h2 : f2.offset = 2 ∧ f2.type = tInt) (h3 : f3.offset = 3 ∧ f3.type = tSl)
    (uOp : P.underlying tOp = some (.int .u8)) (cOp : P.cellsOf tOp = 1) (uStr : P.underlying tStr = some .string) (cStr : P.cellsOf tStr = 1) (uInt : P.underlying tInt = some (.int .i64)) (cInt : P.cellsOf tInt = 1) (uSl : P.underlying tSl = some (.slice t)) (cSl : P.cellsOf tSl = 1) (cT : P.cellsOf t = 4) :
    ∀ N, N < 140737488355328 → OpensD H (α := Ty) P t N tsz := by
  intro N
  induction N with
  | zero => exact fun _ => ⟨cT, fun enc w fuel cs d ps h hQ => by have := bulk_one d; omega⟩
  | succ N ih =>
    intro hN
    have ihS := opensD_slice (H := H) (P := P) (N + 1) hN uSl cSl (ih (by omega))
    refine ⟨cT, fun enc w fuel cs d ps h hQ => ?_⟩
    obtain ⟨xs, n, _, hx, hl, hxl, hf⟩ := DataW.trod_struct ht h
    cases hx
    rw [cT] at hl
    obtain ⟨c0, c1, c2, c3, rfl⟩ : ∃ c0 c1 c2 c3, cs = [c0, c1, c2, c3] := by
      rcases cs with _ | ⟨c0, _ | ⟨c1, _ | ⟨c2, _ | ⟨c3, _ | ⟨c4, r⟩⟩⟩⟩⟩ <;> simp at hl
      exact ⟨c0, c1, c2, c3, rfl⟩
    obtain ⟨x0, x1, x2, x3, rfl⟩ : ∃ x0 x1 x2 x3, xs = [x0, x1, x2, x3] := by
      rcases xs with _ | ⟨c0, _ | ⟨c1, _ | ⟨c2, _ | ⟨c3, _ | ⟨c4, r⟩⟩⟩⟩⟩ <;> simp at hxl
      exact ⟨c0, c1, c2, c3, rfl⟩
    have g0 := hf 0 f0 rfl
    have g1 := hf 1 f1 rfl
    have g2 := hf 2 f2 rfl
    have g3 := hf 3 f3 rfl
    rw [h0.1, h0.2, cOp] at g0
    rw [h1.1, h1.2, cStr] at g1
    rw [h2.1, h2.2, cInt] at g2
    rw [h3.1, h3.2, cSl] at g3
    simp only [List.drop_zero, List.drop_succ_cons, List.take_succ_cons, List.take_zero, List.getElem?_cons_zero, List.getElem?_cons_succ] at g0 g1 g2 g3
    rw [bulk_agg] at hQ ⊢
    simp only [List.map_cons, List.map_nil, uptoBulkAll] at hQ ⊢
    obtain ⟨op, e0, _, w0⟩ := DataW.trod_int uOp g0
    obtain ⟨v1, s, e1, r1, z1⟩ := (opensD_string (H := H) (P := P) (N + 1) hN uStr cStr).read enc w n _ _ _ g1 (by omega)
    obtain ⟨v2, m, e2, r2, _⟩ := (opensD_int (H := H) (P := P) (N + 1) uInt cInt).read enc w n _ _ _ g2 (by omega)
    obtain ⟨v3, l, e3, r3, z3⟩ := ihS.read enc w n _ _ _ g3 (by omega)
    obtain ⟨rfl, hs⟩ := r1
    obtain ⟨rfl, hm⟩ := r2
    have hop : 0 ≤ op ∧ op ≤ 255 := by simpa [Lit.wf, IntKind.min, IntKind.max, IntKind.signed, IntKind.bits] using w0
    have r3' : Sl NoM w v3 l := r3
    have e3' := r3'.cells
    refine ⟨.agg #[.int .u8 op, .string s, .int .i64 m, v3], .mk op s m l, ?_, ty_mk hop hs hm r3', ?_⟩
    · rw [e3'] at e3
      simp [Value.cells] at e0 e1 e2 e3 ⊢
      simp [*]
    · rw [tsz_eq]
      show 1 + s.size + (l.map tsz).sum ≤ _
      have := bulk_one x0.1
      have := bulk_one x2.1
      omega
theorem opensD_arg {α : Type} [Rep α] {sz : α → Nat} {t : TypeId} {N : Nat} (ho : OpensD H P t N sz) {enc : TypeId × Value → H} {w : World} {v : Value} {d : DataW H} {ps : List MemPlace}
    (h : DataW.Trod enc P w 0 (fun _ => true) true t v d ps) (hd : uptoBulk d ≤ N) : ∃ (u : Value) (x : α), u.cells = v.cells ∧ Rep.R NoM w u x ∧ sz x ≤ N := by
  obtain ⟨fuel, hf⟩ := h
  obtain ⟨u, x, hv, hR, hp⟩ := ho.read enc w fuel _ _ _ hf hd
  exact ⟨u, x, Array.toList_inj.1 hv, hR, by omega⟩
end
theorem sl_of {α : Type} [Rep α] {M : Nat → Prop} {w : World} {u : Value} {l : List α} {a : Option Addr} {n c : Nat} (h : u.cells = (Value.slice a n c).cells) (hu : Sl M w u l) : u = .slice a n c := by
  rw [hu.cells] at h
  simpa [Value.cells] using h
theorem sum_mem {α : Type} {f : α → Nat} {x : α} {l : List α} (h : x ∈ l) : f x ≤ (l.map f).sum := by
  induction l with
  | nil => cases h
  | cons y r ih =>
    rw [List.map_cons, List.sum_cons]
    rcases List.mem_cons.1 h with e | e
    · subst e; omega
    · have := ih e; omega
open Go Go.RowKit
open Go.Proofs.YtpoahmeacjggfaaGreat.Rows (uptoBulk uptoBulkAll uptoSmall)
/-- An expression's size: its nodes, their names, their annotations. -/
def tmsz (t : Tm) : Nat := ((nodesL t).map fun x => 1 + x.name.size + x.arg.size + tsz x.ann).sum
theorem tmsz_eq (t : Tm) : tmsz t = 1 + t.name.size + t.arg.size + tsz t.ann + (t.kids.map tmsz).sum := by
  unfold tmsz
  rw [nodesL_eq, List.map_cons, List.sum_cons]
  congr 1
  induction t.kids with
  | nil => rfl
  | cons k r ih => rw [List.flatMap_cons, List.map_append, List.sum_append, ih, List.map_cons, List.sum_cons]
theorem sum_in {α : Type} (f : α → Nat) : ∀ (l : List α) (x : α), x ∈ l → f x ≤ (l.map f).sum
  | y :: l, x, h => by
    rw [List.map_cons, List.sum_cons]
    rcases List.mem_cons.1 h with rfl | h
    · omega
    · have := sum_in f l x h; omega
theorem sum_len {α : Type} (f : α → Nat) (hf : ∀ x, 1 ≤ f x) : ∀ (l : List α), l.length ≤ (l.map f).sum
  | [] => lR _
  | y :: l => by
    have h1 := sum_len f hf l
    have h2 := hf y
    rw [List.map_cons, List.sum_cons, List.length_cons]; omega
theorem nsz_tmsz (t : Tm) : nsz t ≤ tmsz t := sum_len _ (fun x => by omega) _
theorem ann_tmsz {t x : Tm} (h : x ∈ nodesL t) : psz x.ann ≤ tmsz t := by
  have h1 := sum_in (fun x => 1 + x.name.size + x.arg.size + tsz x.ann) (nodesL t) x h
  have h2 := psz_tsz x.ann
  have h3 : ((nodesL t).map fun x => 1 + x.name.size + x.arg.size + tsz x.ann).sum = tmsz t := rfl
  omega
theorem annS_tmsz {t : Tm} (h : tmsz t ≤ 2000000) : AnnS t := fun x hx => by have := ann_tmsz hx; omega
section
variable {H : Type} {P : Program}
theorem opensD_bool {t : TypeId} (N : Nat) (ht : P.underlying t = some .bool) (hc : P.cellsOf t = 1) : OpensD H (α := Bool) P t N (fun _ => 1) := by
  refine ⟨hc, fun enc w fuel cs d ps h _ => ?_⟩
  obtain ⟨b, rfl, e⟩ := DataW.trod_bool ht h
  cases e
  exact ⟨.bool b, b, rfl, rfl, bulk_one _⟩
theorem opensD_tm {t tOp tStr tInt tBool tTy tSl : TypeId} {f0 f1 f2 f3 f4 f5 f6 : Field} (ht : P.underlying t = some (.struct #[f0, f1, f2, f3, f4, f5, f6])) (h0 : f0.offset = 0 ∧ f0.type = tOp) (h1 : f1.offset = 1 ∧ f1.type = tStr) (h2 : f2.offset = 2 ∧ f2.type = tStr)
    (h3 : f3.offset = 3 ∧ f3.type = tInt) (h4 : f4.offset = 4 ∧ f4.type = tBool) (h5 : f5.offset = 5 ∧ f5.type = tTy) (h6 : f6.offset = 9 ∧ f6.type = tSl)
    (uOp : P.underlying tOp = some (.int .u8)) (cOp : P.cellsOf tOp = 1) (uStr : P.underlying tStr = some .string) (cStr : P.cellsOf tStr = 1) (uInt : P.underlying tInt = some (.int .i64)) (cInt : P.cellsOf tInt = 1) (uBool : P.underlying tBool = some .bool) (cBool : P.cellsOf tBool = 1)
    (uSl : P.underlying tSl = some (.slice t)) (cSl : P.cellsOf tSl = 1) (oT : ∀ N, N < 140737488355328 → OpensD H (α := Ty) P tTy N tsz) (cT : P.cellsOf t = 10) :
    ∀ N, N < 140737488355328 → OpensD H (α := Tm) P t N tmsz := by
  intro N
  induction N with
  | zero => exact fun _ => ⟨cT, fun enc w fuel cs d ps h hQ => by have := bulk_one d; omega⟩
  | succ N ih =>
    intro hN
    have ihS := opensD_slice (H := H) (P := P) (N + 1) hN uSl cSl (ih (by omega))
    refine ⟨cT, fun enc w fuel cs d ps h hQ => ?_⟩
    obtain ⟨xs, n, _, hx, hl, hxl, hf⟩ := DataW.trod_struct ht h
    cases hx
    rw [cT] at hl
    obtain ⟨c0, c1, c2, c3, c4, c5, c6, c7, c8, c9, rfl⟩ : ∃ c0 c1 c2 c3 c4 c5 c6 c7 c8 c9, cs = [c0, c1, c2, c3, c4, c5, c6, c7, c8, c9] := by
      rcases cs with _ | ⟨c0, _ | ⟨c1, _ | ⟨c2, _ | ⟨c3, _ | ⟨c4, _ | ⟨c5, _ | ⟨c6, _ | ⟨c7, _ | ⟨c8, _ | ⟨c9, _ | ⟨c10, r⟩⟩⟩⟩⟩⟩⟩⟩⟩⟩⟩ <;> simp at hl
      exact ⟨c0, c1, c2, c3, c4, c5, c6, c7, c8, c9, rfl⟩
    obtain ⟨x0, x1, x2, x3, x4, x5, x6, rfl⟩ : ∃ x0 x1 x2 x3 x4 x5 x6, xs = [x0, x1, x2, x3, x4, x5, x6] := by
      rcases xs with _ | ⟨c0, _ | ⟨c1, _ | ⟨c2, _ | ⟨c3, _ | ⟨c4, _ | ⟨c5, _ | ⟨c6, _ | ⟨c7, r⟩⟩⟩⟩⟩⟩⟩⟩ <;> simp at hxl
      exact ⟨c0, c1, c2, c3, c4, c5, c6, rfl⟩
    have g0 := hf 0 f0 rfl
    have g1 := hf 1 f1 rfl
    have g2 := hf 2 f2 rfl
    have g3 := hf 3 f3 rfl
    have g4 := hf 4 f4 rfl
    have g5 := hf 5 f5 rfl
    have g6 := hf 6 f6 rfl
    rw [h0.1, h0.2, cOp] at g0
    rw [h1.1, h1.2, cStr] at g1
    rw [h2.1, h2.2, cStr] at g2
    rw [h3.1, h3.2, cInt] at g3
    rw [h4.1, h4.2, cBool] at g4
    rw [h5.1, h5.2, (oT (N + 1) hN).cells, show Rep.sz Ty = 4 from rfl] at g5
    rw [h6.1, h6.2, cSl] at g6
    simp only [List.drop_zero, List.drop_succ_cons, List.take_succ_cons, List.take_zero, List.getElem?_cons_zero, List.getElem?_cons_succ] at g0 g1 g2 g3 g4 g5 g6
    rw [bulk_agg] at hQ ⊢
    simp only [List.map_cons, List.map_nil, uptoBulkAll] at hQ ⊢
    obtain ⟨op, e0, _, w0⟩ := DataW.trod_int uOp g0
    obtain ⟨v1, s, e1, r1, z1⟩ := (opensD_string (H := H) (P := P) (N + 1) hN uStr cStr).read enc w n _ _ _ g1 (by omega)
    obtain ⟨v2, ar, e2, r2, z2⟩ := (opensD_string (H := H) (P := P) (N + 1) hN uStr cStr).read enc w n _ _ _ g2 (by omega)
    obtain ⟨v3, m, e3, r3, _⟩ := (opensD_int (H := H) (P := P) (N + 1) uInt cInt).read enc w n _ _ _ g3 (by omega)
    obtain ⟨v4, b, e4, r4, _⟩ := (opensD_bool (H := H) (P := P) (N + 1) uBool cBool).read enc w n _ _ _ g4 (by omega)
    obtain ⟨v5, a, e5, r5, z5⟩ := (oT (N + 1) hN).read enc w n _ _ _ g5 (by omega)
    obtain ⟨v6, l, e6, r6, z6⟩ := ihS.read enc w n _ _ _ g6 (by omega)
    obtain ⟨rfl, hs⟩ := r1
    obtain ⟨rfl, har⟩ := r2
    obtain ⟨rfl, hm⟩ := r3
    obtain rfl : v4 = .bool b := r4
    obtain ⟨akv, rfl, _⟩ := tO r5
    have hop : 0 ≤ op ∧ op ≤ 255 := by simpa [Lit.wf, IntKind.min, IntKind.max, IntKind.signed, IntKind.bits] using w0
    have r6' : Sl NoM w v6 l := r6
    have e6' := r6'.cells
    refine ⟨.agg #[.int .u8 op, .string s, .string ar, .int .i64 m, .bool b, .int .u8 a.op, .string a.name, .int .i64 a.n, akv, v6], .mk op s ar m b a l, ?_, tm_mk hop hs har hm r5 r6', ?_⟩
    · rw [e6'] at e6
      simp [Value.cells] at e0 e1 e2 e3 e4 e5 e6 ⊢
      simp [*]
    · rw [tmsz_eq]
      show 1 + s.size + ar.size + tsz a + (l.map tmsz).sum ≤ _
      have := bulk_one x0.1
      have := bulk_one x3.1
      omega
end
end Rw
namespace Go.Proofs.YtpoahmeacjggfaaGreat
open Go Rw Go.RowKit
set_option maxRecDepth 100000
theorem without_step {l : List ByteArray} {i : Nat} (h : i < l.length) (s : ByteArray) : without (l.take (i + 1)) s = without (l.take i) s ++ (if l[i] = s then [] else [l[i]]) := by
  unfold without
  rw [List.take_succ_eq_append_getElem h, List.filter_append]
  congr 1
  by_cases e : l[i] = s <;> simp [e]
theorem without_take (l : List ByteArray) (s : ByteArray) (i : Nat) : (without (l.take i) s).length ≤ l.length := Nat.le_trans (without_len _ _) (by rw [List.length_take]; omega)
theorem without_spec (l : List ByteArray) (s : ByteArray) (M : Nat → Prop) (w : World) (v : Value) (hs : Sl M w v l) (hlow0 : Low M w) (hn : l.length ≤ 2000000) :
    Calls Tryz.prog 29 #[v, .string s] w (Ret fun r w' => Sl M w' r (without l s) ∧ Ext w w') := by
  have Lw := hlow0
  have hB := lR w.heap.size
  have hE := Below.refl w.heap.size w
  have hsub : ∀ b, M b → M b := fun _ h => h
  refine cN (n := 27) Tryz.func29 rfl rfl rfl ?_
  refine q0 (lP 1 tK rfl (q1 (q0 (lP 1 tK rfl (q1 (cS (q0 (lP 1 tK rfl (q1 (cB ?_))))))))))
  refine c_loop3 (X := Nat) (Y := Value) (Z := Nat → Prop) (fun i v5 M1 => [(0, v), (1, .string s), (5, v5), (6, .int .i64 (i : Nat))]) (fun i v5 M1 w' => i ≤ l.length ∧ OwnSl 9 w.heap.size M1 w' v5 (without (l.take i) s) ∧ Sl M1 w' v l ∧ Low M1 w' ∧ (∀ b, M b → M1 b) ∧ Below w.heap.size w w' ∧ w.heap.size ≤ w'.heap.size) (fun i v5 M1 => l.length - i) (0) (.slice none 0 0) (M) (s4 rfl rfl rfl rfl) ?_ ?_
  · exact ⟨Nat.zero_le _, own_nil, hs, Lw, hsub, hE, hB⟩
  clear hs Lw hsub hE hB
  rintro i v5 M1 w1 ⟨hi, ho, hs, Lw, hsub, hE, hB⟩
  have hwl := without_take l s i
  refine cS (q0 (lP 2 tK rfl ?_))
  refine lC (o_len tK hs rfl rfl rfl rfl rfl ?_)
  refine lP 1 tK rfl (q1 ?_)
  refine cP _ rfl (fun c1 => ?_) (fun c1 => ?_)
  · refine cK (xS (cS (cB (q0 (lP 2 tK rfl ?_)))))
    have hil : i < l.length := by omega
    refine lC (o_ixS tK hs (gE hil) rfl rfl rfl rfl rfl rfl rfl rfl rfl ?_)
    intro ebz2 eoz2 euz2 hrz2 hatz2
    obtain ⟨rfl, hszz2⟩ := hrz2
    refine lC (oD tK (hatz2.cell 0 _ rfl) rfl rfl rfl rfl rfl ?_)
    refine lP 2 tK rfl (q1 ?_)
    refine c_ifN _ rfl (fun c3 => ?_) (fun c3 => ?_)
    · refine cG (lP 3 tK rfl ?_)
      refine lC (o_ixS tK hs (gE hil) rfl rfl rfl rfl rfl rfl rfl rfl rfl ?_)
      intro ebz4 eoz4 euz4 hrz4 hatz4
      obtain ⟨rfl, hszz4⟩ := hrz4
      refine lC (oD tK (hatz4.cell 0 _ rfl) rfl rfl rfl rfl rfl ?_)
      refine lC (o_bs tK rfl rfl rfl rfl rfl rfl rfl (sz1 rfl) rfl rfl rfl ?_)
      intro bw2 w2 qbw2 ew2 hbw2
      have nbw2 := nO Lw qbw2
      replace ho := ho.Y Lw hB ew2
      replace hE := ew2.bl hE hB
      replace hs := hs.Y ew2
      replace Lw := Lw.Y ew2
      replace hB := ew2.z hB
      refine lC (o_app1 tK ho hbw2 nbw2 (show Rep.R _ _ _ l[i] from ⟨rfl, hszz4⟩) Lw hB rfl rfl rfl rfl rfl rfl rfl (by first | omega | (simp; omega)) (by show (_ + _) * 16 ≤ _; first | omega | (simp; omega)) rfl rfl ?_)
      intro vw3 w3 Mw3 hw3 sw3 frw3 blw3
      replace hE := hE.trans sw3.below
      replace hs := hs.sp sw3
      replace hsub := sw3.sb hsub
      replace Lw := sw3.low
      replace hB := sw3.z hB
      replace ho := hw3
      clear hw3
      refine lP 1 tK rfl (q2 (xS (cG (lP 1 tK rfl ?_))))
      refine lC (o_ai rfl rfl rfl (by omega) rfl rfl ?_)
      refine lP 1 tK rfl (lN ?_)
      exact x_round3 (i + 1) (vw3) (Mw3) (s4 rfl rfl rfl (gN rfl (by omega))) ⟨by omega, by rw [without_step hil, if_neg (by assumption)]; exact ho, hs, Lw, hsub, hE, hB⟩ (by omega)
    refine cK (x_blk (xS (cG (lP 1 tK rfl ?_))))
    refine lC (o_ai rfl rfl rfl (by omega) rfl rfl ?_)
    refine lP 1 tK rfl (lN ?_)
    exact x_round3 (i + 1) (v5) (M1) (s4 rfl rfl rfl (gN rfl (by omega))) ⟨by omega, by rw [without_step hil, if_pos (by assumption), List.append_nil]; exact ho, hs, Lw, hsub, hE, hB⟩ (by omega)
  refine c_exit (xE (xE (x_blkE (xS (q0 (lP 2 tK rfl (q1 (cR (x1_ rfl rfl ?_)))))))))
  obtain rfl : i = l.length := by omega
  rw [List.take_of_length_le (lR _)] at ho
  exact ⟨ho.sl (by have := without_len l s; omega) hlow0 hsub, hE⟩
theorem with_spec (l : List ByteArray) (s : ByteArray) (hss : s.size < 140737488355328) (M : Nat → Prop) (w : World) (v : Value) (hs : Sl M w v l) (hlow0 : Low M w) (hn : l.length ≤ 2000000) :
    Calls Tryz.prog 30 #[v, .string s] w (Ret fun r w' => Sl M w' r (withL l s) ∧ Ext w w') := by
  have Lw := hlow0
  have hB := lR w.heap.size
  have hE := Below.refl w.heap.size w
  have hsub : ∀ b, M b → M b := fun _ h => h
  refine cN (n := 48) Tryz.func30 rfl rfl rfl ?_
  refine q0 (lP 1 tK rfl (q1 (q0 (lP 1 tK rfl (q1 (q0 (lP 1 tK rfl (q1 (cS (q0 (lP 1 tK rfl (q1 (cB ?_)))))))))))))
  refine c_loop5 (X := Nat) (Y := Value) (Z := Nat → Prop) (U := List ByteArray) (V := Bool) (fun i v5 M1 out fl => [(0, v), (1, .string s), (5, v5), (6, .bool fl), (7, .int .i64 (i : Nat))]) (fun i v5 M1 out fl w' => i ≤ l.length ∧ (out, fl) = (withP (l.take i) s) ∧ OwnSl 9 w.heap.size M1 w' v5 out ∧ Sl M1 w' v l ∧ Low M1 w' ∧ (∀ b, M b → M1 b) ∧ Below w.heap.size w w' ∧ w.heap.size ≤ w'.heap.size) (fun i v5 M1 out fl => l.length - i) (0) (.slice none 0 0) (M) ([]) (false) (s5 rfl rfl rfl rfl rfl) ?_ ?_
  · exact ⟨Nat.zero_le _, rfl, own_nil, hs, Lw, hsub, hE, hB⟩
  clear hs Lw hsub hE hB
  rintro i v5 M1 out fl w1 ⟨hi, hst, ho, hs, Lw, hsub, hE, hB⟩
  have hwl := withP_len s l i hi
  rw [← hst] at hwl
  simp only at hwl
  have hwl2 : out.length ≤ i + 1 := by omega
  refine cS (q0 (lP 2 tK rfl ?_))
  refine lC (o_len tK hs rfl rfl rfl rfl rfl ?_)
  refine lP 1 tK rfl (q1 ?_)
  refine cP _ rfl (fun c1 => ?_) (fun c1 => ?_)
  · refine cK (xS (cS (cB (cS (q0 (lP 3 tK rfl ?_))))))
    refine l_splitB 16 _ rfl (fun c2 => ?_) (fun c2 => ?_)
    · refine lP 3 tK rfl ?_
      have hil : i < l.length := by omega
      refine lC (o_ixS tK hs (gE hil) rfl rfl rfl rfl rfl rfl rfl rfl rfl ?_)
      intro ebz3 eoz3 euz3 hrz3 hatz3
      obtain ⟨rfl, hszz3⟩ := hrz3
      refine lC (oD tK (hatz3.cell 0 _ rfl) rfl rfl rfl rfl rfl ?_)
      refine lP 2 tK rfl (q1 ?_)
      refine c_if _ rfl (fun c4 => ?_) (fun c4 => ?_)
      · refine q0 (lP 2 tK rfl ?_)
        refine lC (o_bs tK rfl rfl rfl rfl rfl rfl rfl (sz1 rfl) rfl rfl rfl ?_)
        intro bw2 w2 qbw2 ew2 hbw2
        have nbw2 := nO Lw qbw2
        replace ho := ho.Y Lw hB ew2
        replace hE := ew2.bl hE hB
        replace hs := hs.Y ew2
        replace Lw := Lw.Y ew2
        replace hB := ew2.z hB
        refine lC (o_app1 tK ho hbw2 nbw2 (show Rep.R _ _ _ s from ⟨rfl, hss⟩) Lw hB rfl rfl rfl rfl rfl rfl rfl (by first | omega | (simp; omega)) (by show (_ + _) * 16 ≤ _; first | omega | (simp; omega)) rfl rfl ?_)
        intro vw3 w3 Mw3 hw3 sw3 frw3 blw3
        replace hE := hE.trans sw3.below
        replace hs := hs.sp sw3
        replace hsub := sw3.sb hsub
        replace Lw := sw3.low
        replace hB := sw3.z hB
        replace ho := hw3
        clear hw3
        refine lP 1 tK rfl (q1 (cG (lP 1 tK rfl (q1 (q0 (lP 2 tK rfl ?_))))))
        refine lC (o_ixS tK hs (gE hil) rfl rfl rfl rfl rfl rfl rfl rfl rfl ?_)
        intro ebz5 eoz5 euz5 hrz5 hatz5
        obtain ⟨rfl, hszz5⟩ := hrz5
        refine lC (oD tK (hatz5.cell 0 _ rfl) rfl rfl rfl rfl rfl ?_)
        refine lP 2 tK rfl (q1 ?_)
        refine c_ifN _ rfl (fun c6 => ?_) (fun c6 => ?_)
        · have hcc : (fl = false ∧ leS s l[i] = true) := by simp_all [leS]
          have he2 : (stW s (out, fl) l[i]).2 = true := by
            show (fl || leS s l[i]) = _
            rw [hcc.2, Bool.or_true]
          refine cG (lP 3 tK rfl ?_)
          refine lC (o_ixS tK hs (gE hil) rfl rfl rfl rfl rfl rfl rfl rfl rfl ?_)
          intro ebz7 eoz7 euz7 hrz7 hatz7
          obtain ⟨rfl, hszz7⟩ := hrz7
          refine lC (oD tK (hatz7.cell 0 _ rfl) rfl rfl rfl rfl rfl ?_)
          refine lC (o_bs tK rfl rfl rfl rfl rfl rfl rfl (sz1 rfl) rfl rfl rfl ?_)
          intro bw4 w4 qbw4 ew4 hbw4
          have nbw4 := nO Lw qbw4
          replace ho := ho.Y Lw hB ew4
          replace hE := ew4.bl hE hB
          replace hs := hs.Y ew4
          replace Lw := Lw.Y ew4
          replace hB := ew4.z hB
          refine lC (o_app1 tK ho hbw4 nbw4 (show Rep.R _ _ _ l[i] from ⟨rfl, hszz7⟩) Lw hB rfl rfl rfl rfl rfl rfl rfl (by first | omega | (simp; omega)) (by show (_ + _) * 16 ≤ _; first | omega | (simp; omega)) rfl rfl ?_)
          intro vw5 w5 Mw5 hw5 sw5 frw5 blw5
          replace hE := hE.trans sw5.below
          replace hs := hs.sp sw5
          replace hsub := sw5.sb hsub
          replace Lw := sw5.low
          replace hB := sw5.z hB
          replace ho := hw5
          clear hw5
          refine lP 1 tK rfl (q2 (xS (cG (lP 1 tK rfl ?_))))
          refine lC (o_ai rfl rfl rfl (by omega) rfl rfl ?_)
          refine lP 1 tK rfl (lN ?_)
          exact x_round5 (i + 1) (vw5) (Mw5) ((stW s (out, fl) l[i]).1) ((stW s (out, fl) l[i]).2) (s5 rfl rfl rfl (get_bool rfl (by rw [he2])) (gN rfl (by omega))) ⟨by omega, by rw [withP_step hil, ← hst], by rw [show (stW s (out, fl) l[i]).1 = _ from (by unfold stW; rw [if_neg (by assumption), if_pos hcc])]; exact ho, hs, Lw, hsub, hE, hB⟩ (by omega)
        have hcc : (fl = false ∧ leS s l[i] = true) := by simp_all [leS]
        have he2 : (stW s (out, fl) l[i]).2 = true := by
          show (fl || leS s l[i]) = _
          rw [hcc.2, Bool.or_true]
        refine cK (x_blk (xS (cG (lP 1 tK rfl ?_))))
        refine lC (o_ai rfl rfl rfl (by omega) rfl rfl ?_)
        refine lP 1 tK rfl (lN ?_)
        exact x_round5 (i + 1) (vw3) (Mw3) ((stW s (out, fl) l[i]).1) ((stW s (out, fl) l[i]).2) (s5 rfl rfl rfl (get_bool rfl (by rw [he2])) (gN rfl (by omega))) ⟨by omega, by rw [withP_step hil, ← hst], by rw [show (stW s (out, fl) l[i]).1 = _ from (by unfold stW; rw [if_pos (by assumption), if_pos hcc])]; exact ho, hs, Lw, hsub, hE, hB⟩ (by omega)
      refine cK (xS (q0 (lP 2 tK rfl ?_)))
      refine lC (o_ixS tK hs (gE hil) rfl rfl rfl rfl rfl rfl rfl rfl rfl ?_)
      intro ebz8 eoz8 euz8 hrz8 hatz8
      obtain ⟨rfl, hszz8⟩ := hrz8
      refine lC (oD tK (hatz8.cell 0 _ rfl) rfl rfl rfl rfl rfl ?_)
      refine lP 2 tK rfl (q1 ?_)
      refine c_ifN _ rfl (fun c9 => ?_) (fun c9 => ?_)
      · have hcc : ¬ (fl = false ∧ leS s l[i] = true) := by simp_all [leS]
        have he2 : (stW s (out, fl) l[i]).2 = fl := by
          show (fl || leS s l[i]) = _
          revert hcc
          cases fl <;> cases leS s l[i] <;> simp
        refine cG (lP 3 tK rfl ?_)
        refine lC (o_ixS tK hs (gE hil) rfl rfl rfl rfl rfl rfl rfl rfl rfl ?_)
        intro ebz10 eoz10 euz10 hrz10 hatz10
        obtain ⟨rfl, hszz10⟩ := hrz10
        refine lC (oD tK (hatz10.cell 0 _ rfl) rfl rfl rfl rfl rfl ?_)
        refine lC (o_bs tK rfl rfl rfl rfl rfl rfl rfl (sz1 rfl) rfl rfl rfl ?_)
        intro bw6 w6 qbw6 ew6 hbw6
        have nbw6 := nO Lw qbw6
        replace ho := ho.Y Lw hB ew6
        replace hE := ew6.bl hE hB
        replace hs := hs.Y ew6
        replace Lw := Lw.Y ew6
        replace hB := ew6.z hB
        refine lC (o_app1 tK ho hbw6 nbw6 (show Rep.R _ _ _ l[i] from ⟨rfl, hszz10⟩) Lw hB rfl rfl rfl rfl rfl rfl rfl (by first | omega | (simp; omega)) (by show (_ + _) * 16 ≤ _; first | omega | (simp; omega)) rfl rfl ?_)
        intro vw7 w7 Mw7 hw7 sw7 frw7 blw7
        replace hE := hE.trans sw7.below
        replace hs := hs.sp sw7
        replace hsub := sw7.sb hsub
        replace Lw := sw7.low
        replace hB := sw7.z hB
        replace ho := hw7
        clear hw7
        refine lP 1 tK rfl (q2 (xS (cG (lP 1 tK rfl ?_))))
        refine lC (o_ai rfl rfl rfl (by omega) rfl rfl ?_)
        refine lP 1 tK rfl (lN ?_)
        exact x_round5 (i + 1) (vw7) (Mw7) ((stW s (out, fl) l[i]).1) ((stW s (out, fl) l[i]).2) (s5 rfl rfl rfl (get_bool rfl (by rw [he2])) (gN rfl (by omega))) ⟨by omega, by rw [withP_step hil, ← hst], by rw [show (stW s (out, fl) l[i]).1 = _ from (by unfold stW; rw [if_neg (by assumption), if_neg hcc])]; exact ho, hs, Lw, hsub, hE, hB⟩ (by omega)
      have hcc : ¬ (fl = false ∧ leS s l[i] = true) := by simp_all [leS]
      have he2 : (stW s (out, fl) l[i]).2 = fl := by
        show (fl || leS s l[i]) = _
        revert hcc
        cases fl <;> cases leS s l[i] <;> simp
      refine cK (x_blk (xS (cG (lP 1 tK rfl ?_))))
      refine lC (o_ai rfl rfl rfl (by omega) rfl rfl ?_)
      refine lP 1 tK rfl (lN ?_)
      exact x_round5 (i + 1) (v5) (M1) ((stW s (out, fl) l[i]).1) ((stW s (out, fl) l[i]).2) (s5 rfl rfl rfl (get_bool rfl (by rw [he2])) (gN rfl (by omega))) ⟨by omega, by rw [withP_step hil, ← hst], by rw [show (stW s (out, fl) l[i]).1 = _ from (by unfold stW; rw [if_pos (by assumption), if_neg hcc])]; exact ho, hs, Lw, hsub, hE, hB⟩ (by omega)
    refine lP 7 tK rfl (q1 (c_ifF rfl (cK (xS (q0 (lP 2 tK rfl ?_))))))
    have hil : i < l.length := by omega
    refine lC (o_ixS tK hs (gE hil) rfl rfl rfl rfl rfl rfl rfl rfl rfl ?_)
    intro ebz11 eoz11 euz11 hrz11 hatz11
    obtain ⟨rfl, hszz11⟩ := hrz11
    refine lC (oD tK (hatz11.cell 0 _ rfl) rfl rfl rfl rfl rfl ?_)
    refine lP 2 tK rfl (q1 ?_)
    refine c_ifN _ rfl (fun c12 => ?_) (fun c12 => ?_)
    · have hcc : ¬ (fl = false ∧ leS s l[i] = true) := by simp_all [leS]
      have he2 : (stW s (out, fl) l[i]).2 = fl := by
        show (fl || leS s l[i]) = _
        revert hcc
        cases fl <;> cases leS s l[i] <;> simp
      refine cG (lP 3 tK rfl ?_)
      refine lC (o_ixS tK hs (gE hil) rfl rfl rfl rfl rfl rfl rfl rfl rfl ?_)
      intro ebz13 eoz13 euz13 hrz13 hatz13
      obtain ⟨rfl, hszz13⟩ := hrz13
      refine lC (oD tK (hatz13.cell 0 _ rfl) rfl rfl rfl rfl rfl ?_)
      refine lC (o_bs tK rfl rfl rfl rfl rfl rfl rfl (sz1 rfl) rfl rfl rfl ?_)
      intro bw8 w8 qbw8 ew8 hbw8
      have nbw8 := nO Lw qbw8
      replace ho := ho.Y Lw hB ew8
      replace hE := ew8.bl hE hB
      replace hs := hs.Y ew8
      replace Lw := Lw.Y ew8
      replace hB := ew8.z hB
      refine lC (o_app1 tK ho hbw8 nbw8 (show Rep.R _ _ _ l[i] from ⟨rfl, hszz13⟩) Lw hB rfl rfl rfl rfl rfl rfl rfl (by first | omega | (simp; omega)) (by show (_ + _) * 16 ≤ _; first | omega | (simp; omega)) rfl rfl ?_)
      intro vw9 w9 Mw9 hw9 sw9 frw9 blw9
      replace hE := hE.trans sw9.below
      replace hs := hs.sp sw9
      replace hsub := sw9.sb hsub
      replace Lw := sw9.low
      replace hB := sw9.z hB
      replace ho := hw9
      clear hw9
      refine lP 1 tK rfl (q2 (xS (cG (lP 1 tK rfl ?_))))
      refine lC (o_ai rfl rfl rfl (by omega) rfl rfl ?_)
      refine lP 1 tK rfl (lN ?_)
      exact x_round5 (i + 1) (vw9) (Mw9) ((stW s (out, fl) l[i]).1) ((stW s (out, fl) l[i]).2) (s5 rfl rfl rfl (get_bool rfl (by rw [he2])) (gN rfl (by omega))) ⟨by omega, by rw [withP_step hil, ← hst], by rw [show (stW s (out, fl) l[i]).1 = _ from (by unfold stW; rw [if_neg (by assumption), if_neg hcc])]; exact ho, hs, Lw, hsub, hE, hB⟩ (by omega)
    have hcc : ¬ (fl = false ∧ leS s l[i] = true) := by simp_all [leS]
    have he2 : (stW s (out, fl) l[i]).2 = fl := by
      show (fl || leS s l[i]) = _
      revert hcc
      cases fl <;> cases leS s l[i] <;> simp
    refine cK (x_blk (xS (cG (lP 1 tK rfl ?_))))
    refine lC (o_ai rfl rfl rfl (by omega) rfl rfl ?_)
    refine lP 1 tK rfl (lN ?_)
    exact x_round5 (i + 1) (v5) (M1) ((stW s (out, fl) l[i]).1) ((stW s (out, fl) l[i]).2) (s5 rfl rfl rfl (get_bool rfl (by rw [he2])) (gN rfl (by omega))) ⟨by omega, by rw [withP_step hil, ← hst], by rw [show (stW s (out, fl) l[i]).1 = _ from (by unfold stW; rw [if_pos (by assumption), if_neg hcc])]; exact ho, hs, Lw, hsub, hE, hB⟩ (by omega)
  refine c_exit (xE (xE (x_blkE (xS (cS (q0 (lP 2 tK rfl (q1 ?_))))))))
  refine c_ifB _ rfl (fun c14 => ?_) (fun c14 => ?_)
  · refine cG (lP 2 tK rfl ?_)
    refine lC (o_bs tK rfl rfl rfl rfl rfl rfl rfl (sz1 rfl) rfl rfl rfl ?_)
    intro bw10 w10 qbw10 ew10 hbw10
    have nbw10 := nO Lw qbw10
    replace ho := ho.Y Lw hB ew10
    replace hE := ew10.bl hE hB
    replace hs := hs.Y ew10
    replace Lw := Lw.Y ew10
    replace hB := ew10.z hB
    refine lC (o_app1 tK ho hbw10 nbw10 (show Rep.R _ _ _ s from ⟨rfl, hss⟩) Lw hB rfl rfl rfl rfl rfl rfl rfl (by first | omega | (simp; omega)) (by show (_ + _) * 16 ≤ _; first | omega | (simp; omega)) rfl rfl ?_)
    intro vw11 w11 Mw11 hw11 sw11 frw11 blw11
    replace hE := hE.trans sw11.below
    replace hs := hs.sp sw11
    replace hsub := sw11.sb hsub
    replace Lw := sw11.low
    replace hB := sw11.z hB
    replace ho := hw11
    clear hw11
    refine lP 1 tK rfl (q1 (q0 (lP 2 tK rfl (q1 (cR (x1_ rfl rfl ?_))))))
    obtain rfl : i = l.length := by omega
    rw [List.take_of_length_le (lR _)] at hst
    have hfl : fl = false := by simpa using c14
    have hw : withL l s = out ++ [s] := by unfold withL; rw [← hst, hfl]; rfl
    rw [hw]
    exact ⟨ho.sl (by simp; omega) hlow0 hsub, hE⟩
  refine cK (xS (q0 (lP 2 tK rfl (q1 (cR (x1_ rfl rfl ?_))))))
  obtain rfl : i = l.length := by omega
  rw [List.take_of_length_le (lR _)] at hst
  have hfl : fl = true := by simpa using c14
  have hw : withL l s = out := by unfold withL; rw [← hst, hfl]; rfl
  rw [hw]
  exact ⟨ho.sl (by omega) hlow0 hsub, hE⟩
theorem freeR_spec : ∀ (t : Tm) (M : Nat → Prop) (w : World) (v : Value), Rep.R M w v t → Low M w → nsz t ≤ 2000000 → Calls Tryz.prog 15 #[v] w (Ret fun r w' => Sl M w' r (freeR t) ∧ Ext w w') := by
  refine Tm.ind fun t ih => ?_
  intro M w v ht Lw hsz
  have hE := Below.refl w.heap.size w
  have hB := lR w.heap.size
  obtain ⟨akv, kv, rfl, op, nm, ag, n64, ha, hk⟩ := tm_open ht
  have hps := nsz_eq t
  have hkl := len_nsz t.kids
  refine cN (n := 77) Tryz.func15 rfl rfl rfl ?_
  refine q0 ?_
  refine lC (o_box rfl rfl rfl ?_)
  intro b1 w1 hb_b1 ew1 h1
  replace h1 : Box _ b1 31 [.int .u8 t.op, .string t.name, .string t.arg, .int .i64 t.n, .bool t.has, .int .u8 t.ann.op, .string t.ann.name, .int .i64 t.ann.n, akv, kv] := h1
  replace h1 := h1.at (nO Lw hb_b1)
  replace hE := ew1.bl hE hB
  replace ht := Rep.Y ht ew1
  replace ha := Rep.Y ha ew1
  replace hk := hk.Y ew1
  replace Lw := Lw.Y ew1
  replace hB := ew1.z hB
  refine lP 1 tK rfl (q1 (cS (q0 (lP 1 tK rfl ?_))))
  refine lC (oD tK (h1.cell 0 _ rfl) rfl rfl rfl rfl rfl ?_)
  refine lP 1 tK rfl (q1 ?_)
  refine cP _ rfl (fun c1 => ?_) (fun c1 => ?_)
  · refine q0 (lP 1 tK rfl ?_)
    refine lC (oD tK (h1.cell 1 _ rfl) rfl rfl rfl rfl rfl ?_)
    refine lC (o_bs tK rfl rfl rfl rfl rfl rfl rfl (sz1 rfl) rfl rfl rfl ?_)
    intro bw2 w2 qbw2 ew2 hbw2
    have nbw2 := nO Lw qbw2
    replace hE := ew2.bl hE hB
    replace ht := Rep.Y ht ew2
    replace ha := Rep.Y ha ew2
    replace hk := hk.Y ew2
    replace h1 := h1.Y ew2
    replace Lw := Lw.Y ew2
    replace hB := ew2.z hB
    have hs1 : Sl M w2 (.slice (some ⟨bw2, 0, none⟩) 1 1) [t.name] := lit_sl hbw2 nbw2 (show Rs _ _ [_] [t.name] from ⟨⟨rfl, nm⟩, trivial⟩) (by simp)
    refine lP 1 tK rfl (q1 (cR (xR (x1_ rfl rfl ?_))))
    rw [freeR_eq, if_pos (by omega)]
    exact ⟨hs1, hE⟩
  refine cK (xS (q0 (lP 1 tK rfl (q1 (cS (q0 (lP 1 tK rfl (q1 (cB ?_)))))))))
  have ho32 : t.op ≠ 32 := by omega
  refine c_loop2 (X := Nat) (Y := Value) (fun i vo => [(1, .pointer (some ⟨b1, 0, none⟩)), (3, vo), (4, .int .i64 (i : Nat))]) (fun i vo w' => i ≤ t.kids.length ∧ Sl M w' vo (freeTo t i) ∧ At M w' b1 0 [.int .u8 t.op, .string t.name, .string t.arg, .int .i64 t.n, .bool t.has, .int .u8 t.ann.op, .string t.ann.name, .int .i64 t.ann.n, akv, kv] ∧ Sl M w' kv t.kids ∧ Low M w' ∧ Below w.heap.size w w' ∧ w.heap.size ≤ w'.heap.size) (fun i vo => t.kids.length - i) (0) (.slice none 0 0) (s3 rfl rfl rfl) ?_ ?_
  · exact ⟨Nat.zero_le _, sl_nil, h1, hk, Lw, hE, hB⟩
  clear ht ha h1 hk Lw hE hB
  rintro i vo w3 ⟨hi, hvo, h1, hk, Lw, hE, hB⟩
  refine cS (q0 (lP 2 tK rfl ?_))
  refine lC (oD tK (h1.cell 9 _ rfl) rfl rfl rfl rfl rfl ?_)
  refine lC (o_len tK hk rfl rfl rfl rfl rfl ?_)
  refine lP 1 tK rfl (q1 ?_)
  refine cP _ rfl (fun c2 => ?_) (fun c2 => ?_)
  · refine cK (xS (cS (cB (q0 (lP 1 tK rfl ?_)))))
    refine lC (oD tK (h1.cell 9 _ rfl) rfl rfl rfl rfl rfl ?_)
    refine lP 1 tK rfl ?_
    have hik : i < t.kids.length := by omega
    have hp1 := nsz_get hik
    refine lC (o_ixS tK hk (gE hik) rfl rfl rfl rfl rfl rfl rfl rfl rfl ?_)
    intro ebx eox eux hyx hX
    obtain ⟨akvx, kvx, rfl, opx, nmx, agx, n64x, hax, hkx⟩ := tm_open hyx
    replace hX : At M w3 ebx eox [.int .u8 t.kids[i].op, .string t.kids[i].name, .string t.kids[i].arg, .int .i64 t.kids[i].n, .bool t.kids[i].has, .int .u8 t.kids[i].ann.op, .string t.kids[i].ann.name, .int .i64 t.kids[i].ann.n, akvx, kvx] := hX
    refine lC (oL tK (fun j v hv => hX.cell j v hv) rfl rfl rfl rfl rfl rfl ?_)
    refine lC (oK fo15 rfl rfl rfl (ih _ (gM hik) M _ _ hyx Lw (by omega)) ?_)
    rintro vhf0 w4 ⟨hf0, ew4⟩
    replace hE := ew4.bl hE hB
    replace hvo := hvo.Y ew4
    replace h1 := h1.Y ew4
    replace hk := hk.Y ew4
    replace hyx := Rep.Y hyx ew4
    replace hax := Rep.Y hax ew4
    replace hkx := hkx.Y ew4
    replace hX := hX.Y ew4
    replace Lw := Lw.Y ew4
    replace hB := ew4.z hB
    have hfl := freeR_len t.kids[i]
    refine lP 1 tK rfl (q1 ?_)
    refine c_cut (X := Value) (fun vl => [(1, .pointer (some ⟨b1, 0, none⟩)), (3, vo), (4, .int .i64 (i : Nat)), (5, vl)]) (fun vl w' => Sl M w' vl (cutA t.op t.arg (freeR t.kids[i])) ∧ Sl M w' vo (freeTo t i) ∧ At M w' b1 0 [.int .u8 t.op, .string t.name, .string t.arg, .int .i64 t.n, .bool t.has, .int .u8 t.ann.op, .string t.ann.name, .int .i64 t.ann.n, akv, kv] ∧ Sl M w' kv t.kids ∧ Low M w' ∧ Below w.heap.size w w' ∧ w.heap.size ≤ w'.heap.size) ?_ ?_
    · refine q0 (lP 1 tK rfl ?_)
      refine lC (oD tK (h1.cell 0 _ rfl) rfl rfl rfl rfl rfl ?_)
      refine lP 2 tK rfl ?_
      refine lS 29 _ rfl (fun c3 => ?_) (fun c3 => ?_)
      · refine lP 14 tK rfl (q1 (cI rfl (cG (lP 2 tK rfl ?_))))
        refine lC (oD tK (h1.cell 2 _ rfl) rfl rfl rfl rfl rfl ?_)
        refine lC (oK fo29 rfl rfl rfl (without_spec (freeR t.kids[i]) _ M _ _ hf0 Lw (by omega)) ?_)
        rintro vhwo4 w5 ⟨hwo4, ew5⟩
        replace hE := ew5.bl hE hB
        replace hvo := hvo.Y ew5
        replace h1 := h1.Y ew5
        replace hk := hk.Y ew5
        replace hyx := Rep.Y hyx ew5
        replace hax := Rep.Y hax ew5
        replace hkx := hkx.Y ew5
        replace hX := hX.Y ew5
        replace hf0 := hf0.Y ew5
        replace Lw := Lw.Y ew5
        replace hB := ew5.z hB
        refine lP 1 tK rfl (lN ?_)
        exact x_cut (vhwo4) (s4 rfl rfl rfl rfl) ⟨by rw [show cutA t.op t.arg (freeR t.kids[i]) = _ from if_pos (by omega)]; exact hwo4, hvo, h1, hk, Lw, hE, hB⟩
      refine lP 1 tK rfl ?_
      refine lC (oD tK (h1.cell 0 _ rfl) rfl rfl rfl rfl rfl ?_)
      refine lP 3 tK rfl ?_
      refine lS 34 _ rfl (fun c5 => ?_) (fun c5 => ?_)
      · refine lP 9 tK rfl (q1 (cI rfl (cG (lP 2 tK rfl ?_))))
        refine lC (oD tK (h1.cell 2 _ rfl) rfl rfl rfl rfl rfl ?_)
        refine lC (oK fo29 rfl rfl rfl (without_spec (freeR t.kids[i]) _ M _ _ hf0 Lw (by omega)) ?_)
        rintro vhwo6 w6 ⟨hwo6, ew6⟩
        replace hE := ew6.bl hE hB
        replace hvo := hvo.Y ew6
        replace h1 := h1.Y ew6
        replace hk := hk.Y ew6
        replace hyx := Rep.Y hyx ew6
        replace hax := Rep.Y hax ew6
        replace hkx := hkx.Y ew6
        replace hX := hX.Y ew6
        replace hf0 := hf0.Y ew6
        replace Lw := Lw.Y ew6
        replace hB := ew6.z hB
        refine lP 1 tK rfl (lN ?_)
        exact x_cut (vhwo6) (s4 rfl rfl rfl rfl) ⟨by rw [show cutA t.op t.arg (freeR t.kids[i]) = _ from if_pos (by omega)]; exact hwo6, hvo, h1, hk, Lw, hE, hB⟩
      refine lP 1 tK rfl ?_
      refine lC (oD tK (h1.cell 0 _ rfl) rfl rfl rfl rfl rfl ?_)
      refine lP 3 tK rfl ?_
      refine lS 39 _ rfl (fun c7 => ?_) (fun c7 => ?_)
      · refine lP 4 tK rfl (q1 (cI rfl (cG (lP 2 tK rfl ?_))))
        refine lC (oD tK (h1.cell 2 _ rfl) rfl rfl rfl rfl rfl ?_)
        refine lC (oK fo29 rfl rfl rfl (without_spec (freeR t.kids[i]) _ M _ _ hf0 Lw (by omega)) ?_)
        rintro vhwo8 w7 ⟨hwo8, ew7⟩
        replace hE := ew7.bl hE hB
        replace hvo := hvo.Y ew7
        replace h1 := h1.Y ew7
        replace hk := hk.Y ew7
        replace hyx := Rep.Y hyx ew7
        replace hax := Rep.Y hax ew7
        replace hkx := hkx.Y ew7
        replace hX := hX.Y ew7
        replace hf0 := hf0.Y ew7
        replace Lw := Lw.Y ew7
        replace hB := ew7.z hB
        refine lP 1 tK rfl (lN ?_)
        exact x_cut (vhwo8) (s4 rfl rfl rfl rfl) ⟨by rw [show cutA t.op t.arg (freeR t.kids[i]) = _ from if_pos (by omega)]; exact hwo8, hvo, h1, hk, Lw, hE, hB⟩
      refine lP 1 tK rfl ?_
      refine lC (oD tK (h1.cell 0 _ rfl) rfl rfl rfl rfl rfl ?_)
      refine lP 2 tK rfl (q1 ?_)
      refine cP _ rfl (fun c9 => ?_) (fun c9 => ?_)
      · refine cG (lP 2 tK rfl ?_)
        refine lC (oD tK (h1.cell 2 _ rfl) rfl rfl rfl rfl rfl ?_)
        refine lC (oK fo29 rfl rfl rfl (without_spec (freeR t.kids[i]) _ M _ _ hf0 Lw (by omega)) ?_)
        rintro vhwo10 w8 ⟨hwo10, ew8⟩
        replace hE := ew8.bl hE hB
        replace hvo := hvo.Y ew8
        replace h1 := h1.Y ew8
        replace hk := hk.Y ew8
        replace hyx := Rep.Y hyx ew8
        replace hax := Rep.Y hax ew8
        replace hkx := hkx.Y ew8
        replace hX := hX.Y ew8
        replace hf0 := hf0.Y ew8
        replace Lw := Lw.Y ew8
        replace hB := ew8.z hB
        refine lP 1 tK rfl (lN ?_)
        exact x_cut (vhwo10) (s4 rfl rfl rfl rfl) ⟨by rw [show cutA t.op t.arg (freeR t.kids[i]) = _ from if_pos (by omega)]; exact hwo10, hvo, h1, hk, Lw, hE, hB⟩
      refine cK ?_
      exact x_cut (vhf0) (s4 rfl rfl rfl rfl) ⟨by rw [show cutA t.op t.arg (freeR t.kids[i]) = _ from if_neg (by omega)]; exact hf0, hvo, h1, hk, Lw, hE, hB⟩
    clear hvo h1 hk Lw hE hB
    rintro vl w810 ⟨hl10, hvo, h1, hk, Lw, hE, hB⟩
    refine c_cut (X := Value) (fun vl => [(1, .pointer (some ⟨b1, 0, none⟩)), (3, vo), (4, .int .i64 (i : Nat)), (5, vl)]) (fun vl w' => Sl M w' vl ((cutN t.op t.name i (cutA t.op t.arg (freeR t.kids[i])))) ∧ Sl M w' vo (freeTo t i) ∧ At M w' b1 0 [.int .u8 t.op, .string t.name, .string t.arg, .int .i64 t.n, .bool t.has, .int .u8 t.ann.op, .string t.ann.name, .int .i64 t.ann.n, akv, kv] ∧ Sl M w' kv t.kids ∧ Low M w' ∧ Below w.heap.size w w' ∧ w.heap.size ≤ w'.heap.size) ?_ ?_
    · refine q0 (lP 1 tK rfl ?_)
      refine lC (oD tK (h1.cell 0 _ rfl) rfl rfl rfl rfl rfl ?_)
      refine lP 2 tK rfl ?_
      refine lS 51 _ rfl (fun c11 => ?_) (fun c11 => ?_)
      · refine lP 8 tK rfl (q1 (cI rfl (cG (lP 2 tK rfl ?_))))
        refine lC (oD tK (h1.cell 1 _ rfl) rfl rfl rfl rfl rfl ?_)
        have hla := (cut_len t.op t.name t.arg i (freeR t.kids[i])).1
        have hfl := freeR_len t.kids[i]
        refine lC (oK fo29 rfl rfl rfl (without_spec (cutA t.op t.arg (freeR t.kids[i])) _ M _ _ hl10 Lw (by omega)) ?_)
        rintro vhwo12 w9 ⟨hwo12, ew9⟩
        replace hE := ew9.bl hE hB
        replace hl10 := hl10.Y ew9
        replace hvo := hvo.Y ew9
        replace h1 := h1.Y ew9
        replace hk := hk.Y ew9
        replace Lw := Lw.Y ew9
        replace hB := ew9.z hB
        refine lP 1 tK rfl (lN ?_)
        exact x_cut (vhwo12) (s4 rfl rfl rfl rfl) ⟨by rw [show (cutN t.op t.name i (cutA t.op t.arg (freeR t.kids[i]))) = _ from if_pos (by omega)]; exact hwo12, hvo, h1, hk, Lw, hE, hB⟩
      refine lP 1 tK rfl ?_
      refine lC (oD tK (h1.cell 0 _ rfl) rfl rfl rfl rfl rfl ?_)
      refine lP 2 tK rfl ?_
      refine lS 55 _ rfl (fun c13 => ?_) (fun c13 => ?_)
      · refine lP 4 tK rfl (q1 ?_)
        refine cP _ rfl (fun c14 => ?_) (fun c14 => ?_)
        · refine cG (lP 2 tK rfl ?_)
          refine lC (oD tK (h1.cell 1 _ rfl) rfl rfl rfl rfl rfl ?_)
          have hla := (cut_len t.op t.name t.arg i (freeR t.kids[i])).1
          have hfl := freeR_len t.kids[i]
          refine lC (oK fo29 rfl rfl rfl (without_spec (cutA t.op t.arg (freeR t.kids[i])) _ M _ _ hl10 Lw (by omega)) ?_)
          rintro vhwo15 w10 ⟨hwo15, ew10⟩
          replace hE := ew10.bl hE hB
          replace hl10 := hl10.Y ew10
          replace hvo := hvo.Y ew10
          replace h1 := h1.Y ew10
          replace hk := hk.Y ew10
          replace Lw := Lw.Y ew10
          replace hB := ew10.z hB
          refine lP 1 tK rfl (lN ?_)
          exact x_cut (vhwo15) (s4 rfl rfl rfl rfl) ⟨by rw [show (cutN t.op t.name i (cutA t.op t.arg (freeR t.kids[i]))) = _ from if_pos (by omega)]; exact hwo15, hvo, h1, hk, Lw, hE, hB⟩
        refine cK ?_
        exact x_cut (vl) (s4 rfl rfl rfl rfl) ⟨by rw [show (cutN t.op t.name i (cutA t.op t.arg (freeR t.kids[i]))) = _ from if_neg (by omega)]; exact hl10, hvo, h1, hk, Lw, hE, hB⟩
      refine lP 4 tK rfl (q1 (c_ifF rfl (cK ?_)))
      exact x_cut (vl) (s4 rfl rfl rfl rfl) ⟨by rw [show (cutN t.op t.name i (cutA t.op t.arg (freeR t.kids[i]))) = _ from if_neg (by omega)]; exact hl10, hvo, h1, hk, Lw, hE, hB⟩
    clear hvo h1 hk Lw hE hB hl10
    rintro vl w812 ⟨hl12, hvo, h1, hk, Lw, hE, hB⟩
    have hll := (cut_len t.op t.name t.arg i (freeR t.kids[i])).2
    have hfl := freeR_len t.kids[i]
    have hft := freeTo_len t (Nat.le_of_lt hik)
    have htk := take_nsz t.kids i
    have htk1 := take_nsz t.kids (i + 1)
    have htk2 := nszs_take hik
    refine q0 (lP 1 tK rfl (q1 (cB ?_)))
    refine c_loop2 (X := Nat) (Y := Value) (fun k vp => [(1, .pointer (some ⟨b1, 0, none⟩)), (3, vp), (4, .int .i64 (i : Nat)), (5, vl), (6, .int .i64 (k : Nat))]) (fun k vp w' => k ≤ (cutN t.op t.name i (cutA t.op t.arg (freeR t.kids[i]))).length ∧ Sl M w' vp (allW ((cutN t.op t.name i (cutA t.op t.arg (freeR t.kids[i]))).take k) (freeTo t i)) ∧ Sl M w' vl (cutN t.op t.name i (cutA t.op t.arg (freeR t.kids[i]))) ∧ At M w' b1 0 [.int .u8 t.op, .string t.name, .string t.arg, .int .i64 t.n, .bool t.has, .int .u8 t.ann.op, .string t.ann.name, .int .i64 t.ann.n, akv, kv] ∧ Sl M w' kv t.kids ∧ Low M w' ∧ Below w.heap.size w w' ∧ w.heap.size ≤ w'.heap.size) (fun k vp => (cutN t.op t.name i (cutA t.op t.arg (freeR t.kids[i]))).length - k) (0) (vo) (s5 rfl rfl rfl rfl rfl) ?_ ?_
    · exact ⟨Nat.zero_le _, hvo, hl12, h1, hk, Lw, hE, hB⟩
    clear hvo hl12 h1 hk Lw hE hB
    rintro k vp w11 ⟨hkk, hvp, hl, h1, hk, Lw, hE, hB⟩
    have hal := allW_len ((cutN t.op t.name i (cutA t.op t.arg (freeR t.kids[i]))).take k) (freeTo t i)
    rw [List.length_take] at hal
    refine cS (q0 (lP 2 tK rfl ?_))
    refine lC (o_len tK hl rfl rfl rfl rfl rfl ?_)
    refine lP 1 tK rfl (q1 ?_)
    refine cP _ rfl (fun c16 => ?_) (fun c16 => ?_)
    · refine cK (xS (cS (cB (cG (lP 3 tK rfl ?_)))))
      have hkl2 : k < (cutN t.op t.name i (cutA t.op t.arg (freeR t.kids[i]))).length := by omega
      refine lC (o_ixS tK hl (gE hkl2) rfl rfl rfl rfl rfl rfl rfl rfl rfl ?_)
      intro ebq eoq euq hrq hatq
      obtain ⟨rfl, hszq⟩ := hrq
      refine lC (oD tK (hatq.cell 0 _ rfl) rfl rfl rfl rfl rfl ?_)
      refine lC (oK fo30 rfl rfl rfl (with_spec _ _ hszq M _ _ hvp Lw (by omega)) ?_)
      rintro vhw w12 ⟨hw, ew12⟩
      replace hE := ew12.bl hE hB
      replace hvp := hvp.Y ew12
      replace hl := hl.Y ew12
      replace h1 := h1.Y ew12
      replace hk := hk.Y ew12
      replace Lw := Lw.Y ew12
      replace hB := ew12.z hB
      refine lP 1 tK rfl (q2 (xS (cG (lP 1 tK rfl ?_))))
      refine lC (o_ai rfl rfl rfl (by omega) rfl rfl ?_)
      refine lP 1 tK rfl (lN ?_)
      exact xN (k + 1) (vhw) (s5 rfl rfl rfl rfl (gN rfl (by omega))) ⟨by omega, by rw [allW_step hkl2]; exact hw, hl, h1, hk, Lw, hE, hB⟩ (by omega)
    refine c_exit (xE (xE (x_blkE (x_blk (xS (cG (lP 1 tK rfl ?_)))))))
    refine lC (o_ai rfl rfl rfl (by omega) rfl rfl ?_)
    refine lP 1 tK rfl (lN ?_)
    exact xN (i + 1) (vp) (s3 rfl rfl (gN rfl (by omega))) ⟨by omega, by rw [List.take_of_length_le (by omega)] at hvp; rw [freeTo_step hik]; exact hvp, h1, hk, Lw, hE, hB⟩ (by omega)
  refine c_exit (xE (xE (x_blkE (xS (q0 (lP 2 tK rfl (q1 (cR (x1_ rfl rfl ?_)))))))))
  obtain rfl : i = t.kids.length := by omega
  rw [freeTo_all ho32] at hvo
  exact ⟨hvo, hE⟩
end Go.Proofs.YtpoahmeacjggfaaGreat
namespace Rw
open Go Go.RowKit
/-- The first place of a name. -/
def firstI (l : List ByteArray) (s : ByteArray) : Option Nat := l.findIdx? fun x => decide (x = s)
theorem firstI_some {l : List ByteArray} {s : ByteArray} {k : Nat} (h : firstI l s = some k) : ∃ hk : k < l.length, l[k] = s ∧ ∀ j (hj : j < k), ¬ l[j]'(Nat.lt_trans hj hk) = s := by
  unfold firstI at h
  rw [List.findIdx?_eq_some_iff_getElem] at h
  obtain ⟨hk, h1, h2⟩ := h
  exact ⟨hk, of_decide_eq_true h1, fun j hj => by simpa using h2 j hj⟩
theorem firstI_of {l : List ByteArray} {s : ByteArray} {k : Nat} (hk : k < l.length) (h1 : l[k] = s) (h2 : ∀ j (hj : j < k), ¬ l[j]'(Nat.lt_trans hj hk) = s) : firstI l s = some k := by
  unfold firstI
  rw [List.findIdx?_eq_some_iff_getElem]
  exact ⟨hk, by simpa using h1, fun j hj => by simpa using h2 j hj⟩
/-- What the map holds when the names from the i-th on have been put, the last first. -/
def backM : List ByteArray → Nat → List (ByteArray × Int)
  | [], _ => []
  | s :: r, i => putK (backM r (i + 1)) s (i : Int)
theorem backM_get (x : ByteArray) : ∀ (l : List ByteArray) (i : Nat), getK (backM l i) x = (firstI l x).map fun k => ((i + k : Nat) : Int)
  | [], i => rfl
  | s :: r, i => by
    rw [backM, getK_put, backM_get x r (i + 1)]
    unfold firstI
    rw [List.findIdx?_cons]
    by_cases h : x = s
    · subst h; simp
    · have h' : ¬ s = x := fun e => h e.symm
      simp only [h, if_false, h', decide_false]
      cases hf : r.findIdx? (fun y => decide (y = x)) with
      | none => simp
      | some k => simp; omega
/-- The numbers that the program finds, in the names' order. -/
def numsOf (l F : List ByteArray) : List Int := F.filterMap fun s => (firstI l s).map fun k => (k : Int)
theorem numsOf_step {l F : List ByteArray} {j : Nat} (h : j < F.length) : numsOf l (F.take (j + 1)) = numsOf l (F.take j) ++ (match firstI l F[j] with | some k => [(k : Int)] | none => []) := by
  unfold numsOf
  rw [List.take_succ_eq_append_getElem h, List.filterMap_append]
  congr 1
  cases hf : firstI l F[j] <;> simp [hf]
theorem numsOf_len (l F : List ByteArray) : (numsOf l F).length ≤ F.length := List.length_filterMap_le _ _
/-- The numbers that the document finds. -/
def needB (l F : List ByteArray) (k : Nat) : Bool := match l[k]? with
  | some s => (F.any fun x => decide (x = s)) && decide (firstI l s = some k)
  | none => false
def needL (l F : List ByteArray) : List Int := ((List.range l.length).filter (needB l F)).map fun k : Nat => (k : Int)
theorem needB_iff (l F : List ByteArray) (k : Nat) : needB l F k = true ↔ ∃ s, s ∈ F ∧ firstI l s = some k := by
  unfold needB
  constructor
  · intro h
    split at h
    · rename_i s hs
      rw [Bool.and_eq_true, List.any_eq_true] at h
      obtain ⟨⟨x, hx, he⟩, h2⟩ := h
      exact ⟨s, by rw [← of_decide_eq_true he]; exact hx, of_decide_eq_true h2⟩
    · cases h
  · rintro ⟨s, hs, h⟩
    obtain ⟨hk, h1, _⟩ := firstI_some h
    rw [gE hk]
    simp only
    rw [h1, Bool.and_eq_true, List.any_eq_true]
    exact ⟨⟨s, hs, by simp⟩, by simpa using h⟩
theorem numsOf_mem (l F : List ByteArray) (z : Int) : z ∈ numsOf l F ↔ ∃ k : Nat, z = (k : Int) ∧ ∃ s, s ∈ F ∧ firstI l s = some k := by
  unfold numsOf
  rw [List.mem_filterMap]
  constructor
  · rintro ⟨s, hs, h⟩
    cases hf : firstI l s with
    | none => rw [hf] at h; cases h
    | some k => rw [hf] at h; simp at h; exact ⟨k, h.symm, s, hs, hf⟩
  · rintro ⟨k, rfl, s, hs, h⟩
    exact ⟨s, hs, by rw [h]; rfl⟩
theorem numsOf_nodup (l : List ByteArray) : ∀ {F : List ByteArray}, F.Nodup → (numsOf l F).Nodup
  | [], _ => List.nodup_nil
  | s :: F, h => by
    rw [List.nodup_cons] at h
    have ih := numsOf_nodup l h.2
    unfold numsOf at ih ⊢
    rw [List.filterMap_cons]
    cases hf : firstI l s with
    | none => simpa using ih
    | some k =>
      show ((k : Int) :: _).Nodup
      rw [List.nodup_cons]
      refine ⟨fun hm => ?_, ih⟩
      obtain ⟨k', e, s', hs', hf'⟩ := (numsOf_mem l F (k : Int)).1 hm
      have e' : k = k' := by omega
      subst e'
      obtain ⟨hk, h1, _⟩ := firstI_some hf
      obtain ⟨_, h2, _⟩ := firstI_some hf'
      exact h.1 (by rw [← h1, h2]; exact hs')
theorem needL_law (l : List ByteArray) {F : List ByteArray} (h : F.Nodup) : (numsOf l F).mergeSort (fun x y => decide (x ≤ y)) = needL l F := by
  have tr : ∀ a b c : Int, decide (a ≤ b) = true → decide (b ≤ c) = true → decide (a ≤ c) = true := fun a b c h1 h2 => by simp only [decide_eq_true_eq] at *; omega
  have to : ∀ a b : Int, (decide (a ≤ b) || decide (b ≤ a)) = true := fun a b => by simp only [Bool.or_eq_true, decide_eq_true_eq]; omega
  have hr : (needL l F).Pairwise (fun a b => a < b) := by
    unfold needL
    rw [List.pairwise_map]
    exact ((List.pairwise_lt_range).filter _).imp fun {a b} h => by omega
  have hn : (needL l F).Nodup := hr.imp fun h e => by omega
  have hm : ∀ z, z ∈ numsOf l F ↔ z ∈ needL l F := by
    intro z
    rw [numsOf_mem]
    unfold needL
    rw [List.mem_map]
    constructor
    · rintro ⟨k, rfl, s, hs, hf⟩
      exact ⟨k, List.mem_filter.2 ⟨List.mem_range.2 (firstI_some hf).1, (needB_iff l F k).2 ⟨s, hs, hf⟩⟩, rfl⟩
    · rintro ⟨k, hk, rfl⟩
      exact ⟨k, rfl, (needB_iff l F k).1 (List.mem_filter.1 hk).2⟩
  have hp : ((numsOf l F).mergeSort (fun x y => decide (x ≤ y))).Perm (needL l F) := (List.mergeSort_perm _ _).trans ((List.perm_ext_iff_of_nodup (numsOf_nodup l h) hn).2 hm)
  exact List.Perm.eq_of_pairwise (le := fun a b => decide (a ≤ b) = true) (fun a b _ _ h1 h2 => by simp only [decide_eq_true_eq] at h1 h2; omega) (List.pairwise_mergeSort tr to _) (hr.imp fun h => by simp only [decide_eq_true_eq]; omega) hp
theorem needL_to (l F : List ByteArray) (k : Nat) : (((List.range (k + 1)).filter (needB l F)).map fun k : Nat => (k : Int)) = (((List.range k).filter (needB l F)).map fun k : Nat => (k : Int)) ++ (if needB l F k = true then [(k : Int)] else []) := by
  rw [List.range_succ, List.filter_append, List.map_append]
  congr 1
  by_cases h : needB l F k = true <;> simp [h]
/-- Which definitions need which. -/
def needsR (l : List ByteArray) (ts : List Tm) (i : Nat) : List Int := match ts[i]? with
  | some t => bif rightT t false then needL l (freeR t) else []
  | none => []
/-- The rows while definition i is looked at: cur is its row so far. -/
def rowsAt (l : List ByteArray) (ts : List Tm) (i : Nat) (cur : List Int) : List (List Int) := (List.range l.length).map fun j => if j < i then needsR l ts j else if j = i then cur else []
theorem rowsAt_len (l : List ByteArray) (ts : List Tm) (i : Nat) (cur : List Int) : (rowsAt l ts i cur).length = l.length := by simp [rowsAt]
theorem rowsAt_zero (l : List ByteArray) (ts : List Tm) : rowsAt l ts 0 [] = List.replicate l.length [] := by
  apply List.ext_getElem?
  intro j
  unfold rowsAt
  rw [List.getElem?_map, List.getElem?_replicate]
  by_cases h : j < l.length
  · rw [List.getElem?_range h, if_pos h]; simp
  · rw [List.getElem?_eq_none (by simpa using h), if_neg h]; rfl
theorem rowsAt_get {l : List ByteArray} (ts : List Tm) {i : Nat} (h : i < l.length) (cur : List Int) : (rowsAt l ts i cur)[i]? = some cur := by
  unfold rowsAt
  rw [List.getElem?_map, List.getElem?_range h]; simp
theorem rowsAt_set {l : List ByteArray} (ts : List Tm) {i : Nat} (h : i < l.length) (cur cur' : List Int) : (rowsAt l ts i cur).set i cur' = rowsAt l ts i cur' := by
  apply List.ext_getElem?
  intro j
  rw [List.getElem?_set, rowsAt_len]
  unfold rowsAt
  rw [List.getElem?_map, List.getElem?_map]
  by_cases e : i = j
  · subst e; rw [if_pos rfl, if_pos h, List.getElem?_range h]; simp
  · rw [if_neg e]
    by_cases hj : j < l.length
    · rw [List.getElem?_range hj]
      have e' : ¬ j = i := fun x => e x.symm
      simp [e']
    · rw [List.getElem?_eq_none (by simpa using hj)]; rfl
theorem rowsAt_step {l : List ByteArray} (ts : List Tm) {i : Nat} : rowsAt l ts i (needsR l ts i) = rowsAt l ts (i + 1) [] := by
  unfold rowsAt
  refine List.map_congr_left fun j _ => ?_
  by_cases h1 : j < i
  · rw [if_pos h1, if_pos (by omega)]
  · rw [if_neg h1]
    by_cases h2 : j = i
    · subst h2; rw [if_pos rfl, if_pos (by omega)]
    · rw [if_neg h2, if_neg (by omega)]; simp
theorem rowsAt_end {l : List ByteArray} {ts : List Tm} {i : Nat} (h : ts.length ≤ i) : rowsAt l ts i [] = (List.range l.length).map (needsR l ts) := by
  unfold rowsAt
  refine List.map_congr_left fun j _ => ?_
  have hn : ∀ j, ts.length ≤ j → needsR l ts j = [] := fun j hj => by unfold needsR; rw [List.getElem?_eq_none hj]
  by_cases h1 : j < i
  · rw [if_pos h1]
  · rw [if_neg h1, hn j (by omega)]; simp
theorem rowsAt_full {l : List ByteArray} {ts : List Tm} {i : Nat} (h : l.length ≤ i) : rowsAt l ts i [] = (List.range l.length).map (needsR l ts) := by
  unfold rowsAt
  refine List.map_congr_left fun j hj => ?_
  rw [if_pos (by have := List.mem_range.1 hj; omega)]
theorem needB_comp {l : List ByteArray} (F : List ByteArray) {k : Nat} (hk : k < l.length) : needB l F k = ((F.any fun x => decide (x = l[k])) && (l.take k).all fun x => !decide (x = l[k])) := by
  unfold needB
  rw [gE hk]
  simp only
  congr 1
  rw [Bool.eq_iff_iff, decide_eq_true_eq, List.all_eq_true]
  constructor
  · intro h x hx
    obtain ⟨_, _, h2⟩ := firstI_some h
    obtain ⟨j, hj, rfl⟩ := List.getElem_of_mem hx
    rw [List.length_take] at hj
    rw [List.getElem_take]
    simpa using h2 j (by omega)
  · intro h
    refine firstI_of hk rfl fun j hj => ?_
    have := h (l[j]'(by omega)) (List.mem_iff_getElem.2 ⟨j, by rw [List.length_take]; omega, by rw [List.getElem_take]⟩)
    simpa using this
theorem nanyS {F : List ByteArray} {j : Nat} (h : j < F.length) (s : ByteArray) : (F.take (j + 1)).any (fun x => decide (x = s)) = ((F.take j).any (fun x => decide (x = s)) || decide (F[j] = s)) := by
  rw [List.take_succ_eq_append_getElem h, List.any_append]; simp
theorem nallS {l : List ByteArray} {j : Nat} (h : j < l.length) (s : ByteArray) : (l.take (j + 1)).all (fun x => !decide (x = s)) = ((l.take j).all (fun x => !decide (x = s)) && !decide (l[j] = s)) := by
  rw [List.take_succ_eq_append_getElem h, List.all_append]; simp
theorem needsR_len (l : List ByteArray) (ts : List Tm) (j : Nat) : (needsR l ts j).length ≤ l.length := by
  have h : ∀ F, (needL l F).length ≤ l.length := fun F => by
    unfold needL
    rw [List.length_map]
    exact Nat.le_trans (List.length_filter_le _ _) (by rw [List.length_range]; exact lR _)
  unfold needsR
  split
  · cases rightT _ false
    · exact Nat.zero_le _
    · exact h _
  · exact Nat.zero_le _
theorem rowsAt_small {l : List ByteArray} {ts : List Tm} {i : Nat} {r : List Int} (h : r ∈ rowsAt l ts i []) : r.length ≤ l.length := by
  unfold rowsAt at h
  obtain ⟨j, _, rfl⟩ := List.mem_map.1 h
  split
  · exact needsR_len l ts j
  · split <;> exact Nat.zero_le _
end Rw
namespace Go.Proofs.YtpoahmeacjggfaaGreat
open Go Rw Go.RowKit
set_option maxRecDepth 100000
theorem sortI_spec {e B : Nat} (l : List Int) (M : Nat → Prop) (w : World) (v : Value) (h : OwnSl e B M w v l) (Lw : Low M w) (hsz : l.length < 4611686018427387904) :
    Calls Tryz.prog 13 #[v] w (Ret fun r w' => r = .tuple #[] ∧ OwnSl e B M w' v (srtI l) ∧ Stp B M M w w' ∧ ∀ x, x < w.heap.size → (∀ b, v.ownBlock = some b → x ≠ b) → w'.heap[x]? = w.heap[x]?) := by
  obtain ⟨us, hr, hs⟩ := id h.row
  rcases hr.2 with ⟨rfl, h0⟩ | ⟨g, cap, cur, rfl, _⟩
  · have hl : l = [] := List.eq_nil_of_length_eq_zero h0
    subst hl
    refine (Tryz.sortNone_13 none 0 w).mono fun e w' he => ?_
    obtain ⟨rfl, rfl⟩ := he
    exact ⟨rfl, by rw [show srtI [] = [] from by simp [srtI]]; exact own_nil, Stp.refl Lw, fun _ _ _ => rfl⟩
  · obtain ⟨hH, hb⟩ := own_holds h
    refine (Tryz.sortInts_13 g 0 cap l w hH hb hsz).mono fun e w' he => ?_
    obtain ⟨rfl, n, os, rfl⟩ := he
    exact ⟨rfl, own_sorted h, srtW_stp h Lw, fun x hx hn => srtW_other hx (hn g rfl)⟩
theorem refNeeds_spec (l : List ByteArray) (ts : List Tm) (M : Nat → Prop) (w : World) (vn vt : Value) (hn : Sl M w vn l) (ht : Sl M w vt ts) (hlow0 : Low M w) (hl : l.length ≤ 1000000) (hz : ∀ t ∈ ts, AnnS t ∧ nsz t ≤ 2000000) :
    Calls Tryz.prog 7 #[vn, vt] w (Ret fun r w' => Sl M w' r ((List.range l.length).map (needsR l ts)) ∧ Ext w w') := by
  have Lw := hlow0
  have hB := lR w.heap.size
  have hE := Below.refl w.heap.size w
  have hsub : ∀ b, M b → M b := fun _ h => h
  have hlt := ht.lt
  refine cN (n := 91) Tryz.func7 rfl rfl rfl ?_
  refine q0 (lP 1 tK rfl (q1 (q0 (lP 1 tK rfl ?_))))
  refine lC (o_len tK hn rfl rfl rfl rfl rfl ?_)
  refine lC (o_mk ((⟨.slice none 0 0⟩ : Raw)) tK rfl rfl rfl rfl rfl rfl rfl rfl (fun _ _ => ⟨rfl, _, _, _, rfl⟩) (by show 24 * _ ≤ 140737488355328; omega) (by omega) Lw hB rfl rfl ?_)
  intro bw1 w1 qbw1 ew1 sw1 hback
  replace hE := hE.trans sw1.below
  replace hn := hn.sp sw1
  replace ht := ht.sp sw1
  replace hsub := sw1.sb hsub
  replace Lw := sw1.low
  replace hB := sw1.z hB
  have hbt : bw1 < w1.heap.size := (hback.lt bw1 rfl).2
  have hrows : MRows 3 w.heap.size (Rw.Add M bw1) w1 (.slice (some ⟨bw1, 0, none⟩) l.length l.length) (List.replicate l.length ⟨.slice none 0 0⟩) (rowsAt l ts 0 []) := by
    rw [rowsAt_zero]
    exact rows_start _
  refine lP 1 tK rfl (q1 (cS (q0 (lP 1 tK rfl (q1 (cB ?_))))))
  refine c_loop3 (X := Nat) (Y := List Raw) (Z := Nat → Prop) (fun i vs M1 => [(0, vn), (1, vt), (5, (.slice (some ⟨bw1, 0, none⟩) l.length l.length)), (6, .int .i64 (i : Nat))]) (fun i vs M1 w' => i ≤ l.length ∧ OwnSl 35 w.heap.size M1 w' (.slice (some ⟨bw1, 0, none⟩) l.length l.length) vs ∧ MRows 3 w.heap.size M1 w' (.slice (some ⟨bw1, 0, none⟩) l.length l.length) vs (rowsAt l ts i []) ∧ Sl M1 w' vn l ∧ Sl M1 w' vt ts ∧ Low M1 w' ∧ (∀ b, M b → M1 b) ∧ Below w.heap.size w w' ∧ w.heap.size ≤ w'.heap.size) (fun i vs M1 => l.length - i) (0) (List.replicate l.length ⟨.slice none 0 0⟩) ((Rw.Add M bw1)) (s4 rfl rfl rfl rfl) ?_ ?_
  · exact ⟨Nat.zero_le _, hback, hrows, hn, ht, Lw, hsub, hE, hB⟩
  clear hback hrows hn ht Lw hsub hE hB
  rintro i vs M1 w2 ⟨hi, hback, hrows, hn, ht, Lw, hsub, hE, hB⟩
  refine cS (q0 (lP 2 tK rfl ?_))
  refine lC (o_len tK hn rfl rfl rfl rfl rfl ?_)
  refine lP 2 tK rfl ?_
  refine lS 19 _ rfl (fun c1 => ?_) (fun c1 => ?_)
  · refine lP 2 tK rfl ?_
    refine lC (o_len tK ht rfl rfl rfl rfl rfl ?_)
    refine lP 2 tK rfl (q1 ?_)
    refine cP _ rfl (fun c2 => ?_) (fun c2 => ?_)
    · refine cK (xS (cS (cB (cS (q0 (lP 2 tK rfl ?_))))))
      have hit : i < ts.length := by omega
      obtain ⟨hza, hzn⟩ := hz _ (gM hit)
      refine lC (o_ixS tK ht (gE hit) rfl rfl rfl rfl rfl rfl rfl rfl rfl ?_)
      intro ebx3 eox3 eux3 hyx3 hatx3
      obtain ⟨akvx3, kvx3, rfl, opx3, nmx3, agx3, n64x3, hax3, hkx3⟩ := tm_open hyx3
      replace hatx3 : At M1 w2 ebx3 eox3 [.int .u8 ts[i].op, .string ts[i].name, .string ts[i].arg, .int .i64 ts[i].n, .bool ts[i].has, .int .u8 ts[i].ann.op, .string ts[i].ann.name, .int .i64 ts[i].ann.n, akvx3, kvx3] := hatx3
      refine lC (oL tK (fun j v hv => hatx3.cell j v hv) rfl rfl rfl rfl rfl rfl ?_)
      refine lC (oK fo14 rfl rfl rfl (refTR_spec ts[i] false _ _ _ hyx3 Lw hza) ?_)
      rintro _ w3 ⟨rfl, ew3⟩
      replace hback := hback.Y Lw hB ew3
      replace hrows := hrows.Y Lw hB ew3
      replace hE := ew3.bl hE hB
      replace hn := hn.Y ew3
      replace ht := ht.Y ew3
      replace hyx3 := Rep.Y hyx3 ew3
      replace hax3 := Rep.Y hax3 ew3
      replace hkx3 := hkx3.Y ew3
      replace hatx3 := hatx3.Y ew3
      replace Lw := Lw.Y ew3
      replace hB := ew3.z hB
      refine lP 1 tK rfl (q1 ?_)
      refine c_ifB _ rfl (fun c4 => ?_) (fun c4 => ?_)
      · have hr : rightT ts[i] false = false := by simpa using c4
        refine c_exit (xE (x_blkE (xS (cG (lP 1 tK rfl ?_)))))
        refine lC (o_ai rfl rfl rfl (by omega) rfl rfl ?_)
        refine lP 1 tK rfl (lN ?_)
        exact x_round3 (i + 1) (vs) (M1) (s4 rfl rfl rfl (gN rfl (by omega))) ⟨by omega, hback, by rw [← rowsAt_step, show needsR l ts i = [] by unfold needsR; rw [gE hit]; simp only; rw [hr]; rfl]; exact hrows, hn, ht, Lw, hsub, hE, hB⟩ (by omega)
      have hr : rightT ts[i] false = true := by simpa using c4
      refine cK (xS (q0 (lP 2 tK rfl ?_)))
      refine lC (o_ixS tK ht (gE hit) rfl rfl rfl rfl rfl rfl rfl rfl rfl ?_)
      intro ebx5 eox5 eux5 hyx5 hatx5
      obtain ⟨akvx5, kvx5, rfl, opx5, nmx5, agx5, n64x5, hax5, hkx5⟩ := tm_open hyx5
      replace hatx5 : At M1 w3 ebx5 eox5 [.int .u8 ts[i].op, .string ts[i].name, .string ts[i].arg, .int .i64 ts[i].n, .bool ts[i].has, .int .u8 ts[i].ann.op, .string ts[i].ann.name, .int .i64 ts[i].ann.n, akvx5, kvx5] := hatx5
      refine lC (oL tK (fun j v hv => hatx5.cell j v hv) rfl rfl rfl rfl rfl rfl ?_)
      have hfl := freeR_len ts[i]
      refine lC (oK fo15 rfl rfl rfl (freeR_spec ts[i] _ _ _ hyx5 Lw hzn) ?_)
      rintro vhf w4 ⟨hf, ew4⟩
      replace hback := hback.Y Lw hB ew4
      replace hrows := hrows.Y Lw hB ew4
      replace hE := ew4.bl hE hB
      replace hn := hn.Y ew4
      replace ht := ht.Y ew4
      replace hyx3 := Rep.Y hyx3 ew4
      replace hax3 := Rep.Y hax3 ew4
      replace hkx3 := hkx3.Y ew4
      replace hatx3 := hatx3.Y ew4
      replace hyx5 := Rep.Y hyx5 ew4
      replace hax5 := Rep.Y hax5 ew4
      replace hkx5 := hkx5.Y ew4
      replace hatx5 := hatx5.Y ew4
      replace Lw := Lw.Y ew4
      replace hB := ew4.z hB
      refine lP 1 tK rfl (q1 (q0 (lP 1 tK rfl (q1 (cB ?_)))))
      refine c_loop3 (X := Nat) (Y := List Raw) (Z := Nat → Prop) (fun k vs M1 => [(0, vn), (1, vt), (5, (.slice (some ⟨bw1, 0, none⟩) l.length l.length)), (6, .int .i64 (i : Nat)), (7, vhf), (8, .int .i64 (k : Nat))]) (fun k vs M1 w' => k ≤ l.length ∧ OwnSl 35 w.heap.size M1 w' (.slice (some ⟨bw1, 0, none⟩) l.length l.length) vs ∧ MRows 3 w.heap.size M1 w' (.slice (some ⟨bw1, 0, none⟩) l.length l.length) vs (rowsAt l ts i (((List.range k).filter (needB l (freeR ts[i]))).map fun k : Nat => (k : Int))) ∧ Sl M1 w' vn l ∧ Sl M1 w' vt ts ∧ Low M1 w' ∧ (∀ b, M b → M1 b) ∧ Below w.heap.size w w' ∧ w.heap.size ≤ w'.heap.size ∧ Sl M1 w' vhf (freeR ts[i])) (fun k vs M1 => l.length - k) (0) (vs) (M1) (s6 rfl rfl rfl rfl rfl rfl) ?_ ?_
      · exact ⟨Nat.zero_le _, hback, by simpa using hrows, hn, ht, Lw, hsub, hE, hB, hf⟩
      clear hback hrows hn ht Lw hsub hE hB hf
      rintro k vs M1 w5 ⟨hkk, hback, hrows, hn, ht, Lw, hsub, hE, hB, hf⟩
      refine cS (q0 (lP 2 tK rfl ?_))
      refine lC (o_len tK hn rfl rfl rfl rfl rfl ?_)
      refine lP 1 tK rfl (q1 ?_)
      refine cP _ rfl (fun c6 => ?_) (fun c6 => ?_)
      · refine cK (xS (cS (cB (q0 (lP 1 tK rfl (q1 (cS (q0 (lP 1 tK rfl (q1 (cB ?_)))))))))))
        have hkl : k < l.length := by omega
        refine c_loop (X := Nat) (fun j => [(0, vn), (1, vt), (5, (.slice (some ⟨bw1, 0, none⟩) l.length l.length)), (6, .int .i64 (i : Nat)), (7, vhf), (8, .int .i64 (k : Nat)), (9, .bool (((freeR ts[i]).take j).any fun x => decide (x = l[k]))), (10, .int .i64 (j : Nat))]) (fun j w' => j ≤ (freeR ts[i]).length ∧ OwnSl 35 w.heap.size M1 w' (.slice (some ⟨bw1, 0, none⟩) l.length l.length) vs ∧ MRows 3 w.heap.size M1 w' (.slice (some ⟨bw1, 0, none⟩) l.length l.length) vs (rowsAt l ts i (((List.range k).filter (needB l (freeR ts[i]))).map fun k : Nat => (k : Int))) ∧ Sl M1 w' vn l ∧ Sl M1 w' vt ts ∧ Low M1 w' ∧ (∀ b, M b → M1 b) ∧ Below w.heap.size w w' ∧ w.heap.size ≤ w'.heap.size ∧ Sl M1 w' vhf (freeR ts[i])) (fun j => (freeR ts[i]).length - j) (0) (s8 rfl rfl rfl rfl rfl rfl (get_bool rfl (by simp)) rfl) ?_ ?_
        · exact ⟨Nat.zero_le _, hback, hrows, hn, ht, Lw, hsub, hE, hB, hf⟩
        clear hback hrows hn ht Lw hsub hE hB hf
        rintro j w6 ⟨hj, hback, hrows, hn, ht, Lw, hsub, hE, hB, hf⟩
        refine cS (q0 (lP 2 tK rfl ?_))
        refine lC (o_len tK hf rfl rfl rfl rfl rfl ?_)
        refine lP 1 tK rfl (q1 ?_)
        refine cP _ rfl (fun c7 => ?_) (fun c7 => ?_)
        · refine cK (xS (cS (cB ?_)))
          refine a_beg Ext rfl ?_
          intro w7 ew7
          replace hback := hback.Y Lw hB ew7
          replace hrows := hrows.Y Lw hB ew7
          replace hE := ew7.bl hE hB
          replace hn := hn.Y ew7
          replace ht := ht.Y ew7
          replace hf := hf.Y ew7
          replace Lw := Lw.Y ew7
          replace hB := ew7.z hB
          have hS : Ext w7 w7 := ext_refl _
          have D_hn := hn
          have D_ht := ht
          have D_hf := hf
          refine a_p 0 tK rfl rfl rfl rfl (by kernel_rfl) i3 hS ?_
          refine a_p 1 tK rfl rfl rfl rfl (by kernel_rfl) i3 hS ?_
          refine a_split 51 _ rfl (fun c8 => ?_) (fun c8 => ?_)
          · refine aK 2 rfl rfl rfl (by kernel_rfl) i3 hS ?_
            refine aK 3 rfl rfl rfl (by kernel_rfl) i3 hS ?_
            refine aK 4 rfl rfl rfl (by kernel_rfl) i3 hS ?_
            refine aK 5 rfl rfl rfl (by kernel_rfl) i3 hS ?_
            refine aK 6 rfl rfl rfl (by kernel_rfl) i3 hS ?_
            refine aK 7 rfl rfl rfl (by kernel_rfl) i3 hS ?_
            refine aK 8 rfl rfl rfl (by kernel_rfl) i3 hS ?_
            refine aK 9 rfl rfl rfl (by kernel_rfl) i3 hS ?_
            refine aK 10 rfl rfl rfl (by kernel_rfl) i3 hS ?_
            refine a_p 11 tK rfl rfl rfl rfl (by kernel_rfl) i3 hS ?_
            refine a_p 12 tK rfl rfl rfl rfl (by kernel_rfl) i3 hS ?_
            refine a_end (by kernel_rfl) ?_
            refine x_blk (xS (cG (lP 1 tK rfl ?_)))
            refine lC (o_ai rfl rfl rfl (by omega) rfl rfl ?_)
            refine lP 1 tK rfl (lN ?_)
            exact x_round (j + 1) (s8 rfl rfl rfl rfl rfl rfl (get_bool rfl (by rw [nanyS (show j < (freeR ts[i]).length by omega)]; first | (rw [c8]; rfl) | (rw [c8, Bool.false_or]))) (gN rfl (by omega))) ⟨by omega, hback, hrows, hn, ht, Lw, hsub, hE, hB, hf⟩ (by omega)
          refine a_p 2 tK rfl rfl rfl rfl (by kernel_rfl) i3 hS ?_
          refine a_p 3 tK rfl rfl rfl rfl (by kernel_rfl) i3 hS ?_
          have hj2 : j < (freeR ts[i]).length := by omega
          refine a_ixS 4 tK D_hf (gE hj2) rfl rfl rfl rfl rfl rfl rfl rfl rfl rfl (by kernel_rfl) i4 hS ?_
          intro ebz9 eoz9 euz9 hrz9 hatz9
          obtain ⟨rfl, hszz9⟩ := hrz9
          refine a_ld 5 tK (fun _ hs => (hatz9.Y hs).cell 0 _ rfl) rfl rfl rfl rfl rfl rfl (by kernel_rfl) i3 hS ?_
          refine a_p 6 tK rfl rfl rfl rfl (by kernel_rfl) i3 hS ?_
          refine a_p 7 tK rfl rfl rfl rfl (by kernel_rfl) i3 hS ?_
          refine a_ixS 8 tK D_hn (gE hkl) rfl rfl rfl rfl rfl rfl rfl rfl rfl rfl (by kernel_rfl) i4 hS ?_
          intro ebz10 eoz10 euz10 hrz10 hatz10
          obtain ⟨rfl, hszz10⟩ := hrz10
          refine a_ld 9 tK (fun _ hs => (hatz10.Y hs).cell 0 _ rfl) rfl rfl rfl rfl rfl rfl (by kernel_rfl) i3 hS ?_
          refine a_p 10 tK rfl rfl rfl rfl (by kernel_rfl) i3 hS ?_
          refine a_p 11 tK rfl rfl rfl rfl (by kernel_rfl) i3 hS ?_
          refine a_p 12 tK rfl rfl rfl rfl (by kernel_rfl) i3 hS ?_
          refine a_end (by kernel_rfl) ?_
          refine x_blk (xS (cG (lP 1 tK rfl ?_)))
          refine lC (o_ai rfl rfl rfl (by omega) rfl rfl ?_)
          refine lP 1 tK rfl (lN ?_)
          exact x_round (j + 1) (s8 rfl rfl rfl rfl rfl rfl (get_bool rfl (by rw [nanyS (show j < (freeR ts[i]).length by omega)]; first | (rw [c8]; rfl) | (rw [c8, Bool.false_or]))) (gN rfl (by omega))) ⟨by omega, hback, hrows, hn, ht, Lw, hsub, hE, hB, hf⟩ (by omega)
        refine c_exit (xE (xE (x_blkE (xS (cS (q0 (lP 1 tK rfl (q1 (cB ?_)))))))))
        obtain rfl : j = (freeR ts[i]).length := by omega
        rw [List.take_of_length_le (lR _)]
        refine c_loop (X := Nat) (fun m => [(0, vn), (1, vt), (5, (.slice (some ⟨bw1, 0, none⟩) l.length l.length)), (6, .int .i64 (i : Nat)), (7, vhf), (8, .int .i64 (k : Nat)), (9, .bool (((freeR ts[i]).any fun x => decide (x = l[k])) && (l.take m).all fun x => !decide (x = l[k]))), (11, .int .i64 (m : Nat))]) (fun m w' => m ≤ k ∧ OwnSl 35 w.heap.size M1 w' (.slice (some ⟨bw1, 0, none⟩) l.length l.length) vs ∧ MRows 3 w.heap.size M1 w' (.slice (some ⟨bw1, 0, none⟩) l.length l.length) vs (rowsAt l ts i (((List.range k).filter (needB l (freeR ts[i]))).map fun k : Nat => (k : Int))) ∧ Sl M1 w' vn l ∧ Sl M1 w' vt ts ∧ Low M1 w' ∧ (∀ b, M b → M1 b) ∧ Below w.heap.size w w' ∧ w.heap.size ≤ w'.heap.size ∧ Sl M1 w' vhf (freeR ts[i])) (fun m => k - m) (0) (s8 rfl rfl rfl rfl rfl rfl (get_bool rfl (by simp)) rfl) ?_ ?_
        · exact ⟨Nat.zero_le _, hback, hrows, hn, ht, Lw, hsub, hE, hB, hf⟩
        clear hback hrows hn ht Lw hsub hE hB hf
        rintro m w8 ⟨hm, hback, hrows, hn, ht, Lw, hsub, hE, hB, hf⟩
        refine cS (q0 (lP 3 tK rfl (q1 ?_)))
        refine cP _ rfl (fun c11 => ?_) (fun c11 => ?_)
        · refine cK (xS (cS (cB ?_)))
          refine a_beg Ext rfl ?_
          intro w9 ew9
          replace hback := hback.Y Lw hB ew9
          replace hrows := hrows.Y Lw hB ew9
          replace hE := ew9.bl hE hB
          replace hn := hn.Y ew9
          replace ht := ht.Y ew9
          replace hf := hf.Y ew9
          replace Lw := Lw.Y ew9
          replace hB := ew9.z hB
          have hS : Ext w9 w9 := ext_refl _
          have D_hn := hn
          have D_ht := ht
          have D_hf := hf
          refine a_p 0 tK rfl rfl rfl rfl (by kernel_rfl) i3 hS ?_
          refine a_p 1 tK rfl rfl rfl rfl (by kernel_rfl) i3 hS ?_
          refine a_split 68 _ rfl (fun c12 => ?_) (fun c12 => ?_)
          · refine a_p 2 tK rfl rfl rfl rfl (by kernel_rfl) i3 hS ?_
            refine a_p 3 tK rfl rfl rfl rfl (by kernel_rfl) i3 hS ?_
            have hm2 : m < l.length := by omega
            refine a_ixS 4 tK D_hn (gE hm2) rfl rfl rfl rfl rfl rfl rfl rfl rfl rfl (by kernel_rfl) i4 hS ?_
            intro ebz13 eoz13 euz13 hrz13 hatz13
            obtain ⟨rfl, hszz13⟩ := hrz13
            refine a_ld 5 tK (fun _ hs => (hatz13.Y hs).cell 0 _ rfl) rfl rfl rfl rfl rfl rfl (by kernel_rfl) i3 hS ?_
            refine a_p 6 tK rfl rfl rfl rfl (by kernel_rfl) i3 hS ?_
            refine a_p 7 tK rfl rfl rfl rfl (by kernel_rfl) i3 hS ?_
            refine a_ixS 8 tK D_hn (gE hkl) rfl rfl rfl rfl rfl rfl rfl rfl rfl rfl (by kernel_rfl) i4 hS ?_
            intro ebz14 eoz14 euz14 hrz14 hatz14
            obtain ⟨rfl, hszz14⟩ := hrz14
            refine a_ld 9 tK (fun _ hs => (hatz14.Y hs).cell 0 _ rfl) rfl rfl rfl rfl rfl rfl (by kernel_rfl) i3 hS ?_
            refine a_p 10 tK rfl rfl rfl rfl (by kernel_rfl) i3 hS ?_
            refine a_p 11 tK rfl rfl rfl rfl (by kernel_rfl) i3 hS ?_
            refine a_p 12 tK rfl rfl rfl rfl (by kernel_rfl) i3 hS ?_
            refine a_end (by kernel_rfl) ?_
            refine x_blk (xS (cG (lP 1 tK rfl ?_)))
            refine lC (o_ai rfl rfl rfl (by omega) rfl rfl ?_)
            refine lP 1 tK rfl (lN ?_)
            exact x_round (m + 1) (s8 rfl rfl rfl rfl rfl rfl (get_bool rfl (by rw [nallS (show m < l.length by omega), ← Bool.and_assoc]; first | (rw [c12, Bool.false_and]) | (rw [c12, Bool.true_and]))) (gN rfl (by omega))) ⟨by omega, hback, hrows, hn, ht, Lw, hsub, hE, hB, hf⟩ (by omega)
          refine aK 2 rfl rfl rfl (by kernel_rfl) i3 hS ?_
          refine aK 3 rfl rfl rfl (by kernel_rfl) i3 hS ?_
          refine aK 4 rfl rfl rfl (by kernel_rfl) i3 hS ?_
          refine aK 5 rfl rfl rfl (by kernel_rfl) i3 hS ?_
          refine aK 6 rfl rfl rfl (by kernel_rfl) i3 hS ?_
          refine aK 7 rfl rfl rfl (by kernel_rfl) i3 hS ?_
          refine aK 8 rfl rfl rfl (by kernel_rfl) i3 hS ?_
          refine aK 9 rfl rfl rfl (by kernel_rfl) i3 hS ?_
          refine aK 10 rfl rfl rfl (by kernel_rfl) i3 hS ?_
          refine a_p 11 tK rfl rfl rfl rfl (by kernel_rfl) i3 hS ?_
          refine a_p 12 tK rfl rfl rfl rfl (by kernel_rfl) i3 hS ?_
          refine a_end (by kernel_rfl) ?_
          refine x_blk (xS (cG (lP 1 tK rfl ?_)))
          refine lC (o_ai rfl rfl rfl (by omega) rfl rfl ?_)
          refine lP 1 tK rfl (lN ?_)
          exact x_round (m + 1) (s8 rfl rfl rfl rfl rfl rfl (get_bool rfl (by rw [nallS (show m < l.length by omega), ← Bool.and_assoc]; first | (rw [c12, Bool.false_and]) | (rw [c12, Bool.true_and]))) (gN rfl (by omega))) ⟨by omega, hback, hrows, hn, ht, Lw, hsub, hE, hB, hf⟩ (by omega)
        refine c_exit (xE (xE (x_blkE (xS (q0 (lP 1 tK rfl (q1 ?_)))))))
        obtain rfl : k = m := by omega
        refine c_if _ rfl (fun c15 => ?_) (fun c15 => ?_)
        · have hnb : needB l (freeR ts[i]) k = true := by rw [needB_comp (freeR ts[i]) hkl]; simpa using c15
          refine cG (lP 4 tK rfl ?_)
          have hvv : i < vs.length := by rw [hrows.len, rowsAt_len]; omega
          refine lC (o_ixO tK hback (gE hvv) rfl rfl rfl rfl rfl rfl rfl rfl rfl ?_)
          intro b3 u3 hob3 hr3 hat3
          obtain ⟨rfl, hsl3⟩ := hr3
          replace hat3 := hat3.raw hsl3
          have hrow := hrows.row i vs[i] (((List.range k).filter (needB l (freeR ts[i]))).map fun k : Nat => (k : Int)) (gE hvv) (rowsAt_get ts (by omega) _)
          have hrl : (((List.range k).filter (needB l (freeR ts[i]))).map fun k : Nat => (k : Int)).length ≤ 1000000 := by rw [List.length_map]; exact Nat.le_trans (List.length_filter_le _ _) (by rw [List.length_range]; omega)
          refine lC (oD tK (hat3.cell 0 _ rfl) rfl rfl rfl rfl rfl ?_)
          refine lP 1 tK rfl ?_
          have hbt : bw1 < w8.heap.size := (hback.lt bw1 rfl).2
          refine lC (o_bs tK rfl rfl rfl rfl rfl rfl rfl (sz1 rfl) rfl rfl rfl ?_)
          intro bw10 w10 qbw10 ew10 hbw10
          have nbw10 := nO Lw qbw10
          replace hback := hback.Y Lw hB ew10
          replace hrows := hrows.Y Lw hB ew10
          replace hrow := hrow.Y Lw hB ew10
          replace hE := ew10.bl hE hB
          replace hn := hn.Y ew10
          replace ht := ht.Y ew10
          replace hf := hf.Y ew10
          replace Lw := Lw.Y ew10
          replace hB := ew10.z hB
          refine lC (o_app1 tK hrow hbw10 nbw10 ⟨rfl, by unfold I64; omega⟩ Lw hB rfl rfl rfl rfl rfl rfl rfl (by omega) (by show (_ + _) * 8 ≤ _; omega) rfl rfl ?_)
          intro vw11 w11 Mw11 hw11 sw11 frw11 blw11
          replace hback := hback.sp sw11 (fun x hx => frw11 x (hback.lt x hx).2 (fun e => hrows.top i vs[i] x (gE hvv) e.symm hx))
          replace hE := hE.trans sw11.below
          replace hn := hn.sp sw11
          replace ht := ht.sp sw11
          replace hf := hf.sp sw11
          replace hsub := sw11.sb hsub
          replace Lw := sw11.low
          replace hB := sw11.z hB
          replace hrow := hw11
          clear hw11
          replace hrows := hrows.app (gE hvv) sw11 frw11 blw11 hrow (fun b hb => by have := ob_eq hb; have := ew10.size; omega)
          have hval := hrow.val
          refine lC (o_ixO tK hback (gE hvv) rfl rfl rfl rfl rfl rfl rfl rfl rfl ?_)
          intro b4 u4 hob4 hr4 hat4
          refine lC (o_stO tK hback hob4 hvv (z := ⟨vw11⟩) ⟨rfl, hval.elim fun a h => h.elim fun c h => ⟨a, _, c, h.1⟩⟩ Lw rfl rfl rfl rfl rfl rfl ?_)
          intro w12 hw12 sw12 frw12
          replace hrows := hrows.sp sw12 (fun i x b hx hb => frw12 b (hrows.lt hx hb).2 (fun e => hrows.top i x b hx hb (e ▸ hob4)))
          replace hE := hE.trans sw12.below
          replace hn := hn.sp sw12
          replace ht := ht.sp sw12
          replace hf := hf.sp sw12
          replace hsub := sw12.sb hsub
          replace Lw := sw12.low
          replace hB := sw12.z hB
          replace hback := hw12
          clear hw12
          rw [rowsAt_set ts (by omega)] at hrows
          refine q2 (xS (cG (lP 1 tK rfl ?_)))
          refine lC (o_ai rfl rfl rfl (by omega) rfl rfl ?_)
          refine lP 1 tK rfl (lN ?_)
          exact x_round3 (k + 1) (vs.set i ⟨vw11⟩) (Mw11) (s6 rfl rfl rfl rfl rfl (gN rfl (by omega))) ⟨by omega, hback, by rw [needL_to, if_pos hnb]; exact hrows, hn, ht, Lw, hsub, hE, hB, hf⟩ (by omega)
        have hnb : needB l (freeR ts[i]) k = false := by rw [needB_comp (freeR ts[i]) hkl]; simpa using c15
        refine cK (x_blk (xS (cG (lP 1 tK rfl ?_))))
        refine lC (o_ai rfl rfl rfl (by omega) rfl rfl ?_)
        refine lP 1 tK rfl (lN ?_)
        exact x_round3 (k + 1) (vs) (M1) (s6 rfl rfl rfl rfl rfl (gN rfl (by omega))) ⟨by omega, hback, by rw [needL_to, if_neg (by rw [hnb]; decide), List.append_nil]; exact hrows, hn, ht, Lw, hsub, hE, hB, hf⟩ (by omega)
      refine c_exit (xE (xE (x_blkE (x_blk (xS (cG (lP 1 tK rfl ?_)))))))
      refine lC (o_ai rfl rfl rfl (by omega) rfl rfl ?_)
      refine lP 1 tK rfl (lN ?_)
      exact x_round3 (i + 1) (vs) (M1) (s4 rfl rfl rfl (gN rfl (by omega))) ⟨by omega, hback, by rw [← rowsAt_step, show needsR l ts i = (((List.range k).filter (needB l (freeR ts[i]))).map fun k : Nat => (k : Int)) by unfold needsR; rw [gE hit]; simp only; rw [hr, show k = l.length by omega]; rfl]; exact hrows, hn, ht, Lw, hsub, hE, hB⟩ (by omega)
    refine c_exit (xE (xE (x_blkE (xS (q0 (lP 2 tK rfl (q1 (cR (x1_ rfl rfl ?_)))))))))
    have hfin : rowsAt l ts i [] = (List.range l.length).map (needsR l ts) := by
      by_cases h : l.length ≤ i
      · exact rowsAt_full h
      · exact rowsAt_end (by omega)
    have hrl : ∀ r ∈ rowsAt l ts i [], r.length < 140737488355328 := fun r hr => by
      have := rowsAt_small hr
      omega
    have hsl := hrows.sl hback (by rw [rowsAt_len]; omega) hrl (M0 := M) hlow0 hsub
    rw [hfin] at hsl
    exact ⟨hsl, hE⟩
  refine lP 5 tK rfl (q1 (c_ifF rfl (c_exit (xE (xE (x_blkE (xS (q0 (lP 2 tK rfl (q1 (cR (x1_ rfl rfl ?_))))))))))))
  have hfin : rowsAt l ts i [] = (List.range l.length).map (needsR l ts) := by
    by_cases h : l.length ≤ i
    · exact rowsAt_full h
    · exact rowsAt_end (by omega)
  have hrl : ∀ r ∈ rowsAt l ts i [], r.length < 140737488355328 := fun r hr => by
    have := rowsAt_small hr
    omega
  have hsl := hrows.sl hback (by rw [rowsAt_len]; omega) hrl (M0 := M) hlow0 hsub
  rw [hfin] at hsl
  exact ⟨hsl, hE⟩
theorem backwardS_spec (M : Nat → Prop) (w : World) (v : Value) (l : List ByteArray) (hs : Sl M w v l) (Lw : Low M w) :
    Calls Tryz.prog 11 #[v] w (Ret fun r w' => (∃ b, r = .func (.func 20) #[] #[.pointer (some ⟨b, 0, none⟩)] ∧ At M w' b 0 [v]) ∧ Ext w w') := by
  have hE := Below.refl w.heap.size w
  have hB := lR w.heap.size
  refine cN (n := 4) Tryz.func11 rfl rfl rfl ?_
  refine q0 ?_
  refine lC (o_box rfl rfl rfl ?_)
  intro b1 w1 hb_b1 ew1 h1
  replace h1 := h1.at (nO Lw hb_b1)
  replace hE := ew1.bl hE hB
  replace hs := hs.Y ew1
  replace Lw := Lw.Y ew1
  replace hB := ew1.z hB
  replace h1 := h1.sl hs
  refine lP 1 tK rfl (q1 (q0 (lP 2 tK rfl (q1 (cR (x1_ rfl rfl ?_))))))
  exact ⟨⟨b1, rfl, h1⟩, hE⟩
/-- What it hands to yield. -/
def backLS (l : List ByteArray) : List (Value × Value) := (List.range l.length).map fun (k : Nat) => (Value.int .i64 ((l.length : Int) - 1 - (k : Int)), Value.string ((l[l.length - 1 - k]?).getD ⟨#[]⟩))
theorem backLS_get {l : List ByteArray} {k : Nat} (hk : k < l.length) : (backLS l)[k]? = some (Value.int .i64 ((l.length : Int) - 1 - (k : Int)), Value.string ((l[l.length - 1 - k]?).getD ⟨#[]⟩)) := by
  unfold backLS
  rw [List.getElem?_map, List.getElem?_range hk]; rfl
theorem backLS_of {l : List ByteArray} {k : Nat} {x : Value × Value} (h : (backLS l)[k]? = some x) : k < l.length ∧ x = (Value.int .i64 ((l.length : Int) - 1 - (k : Int)), Value.string ((l[l.length - 1 - k]?).getD ⟨#[]⟩)) := by
  have hk : k < l.length := by
    have := (List.getElem?_eq_some_iff.1 h).1
    simpa [backLS] using this
  rw [backLS_get hk] at h
  exact ⟨hk, (Option.some.inj h).symm⟩
theorem backwardS_iter (M : Nat → Prop) (w0 : World) (b1 bs off cap m : Nat) (v : Value) (l : List ByteArray) (Kp : World → World → Prop) (hL : l.length < 140737488355328) (hKt : ∀ A B C, Kp A B → Kp B C → Kp A C)
    (hk : ∀ W, Kp w0 W → At M W b1 0 [v] ∧ Sl M W v l ∧ ∀ i x, l[i]? = some x → v = .slice (some ⟨bs, off, none⟩) l.length cap ∧ At M W bs (off + i * 1) [.string x]) :
    IterOk Tryz.prog m 20 #[.pointer (some ⟨b1, 0, none⟩)] (backLS l) Kp w0 := by
  intro lp J w hk0 hround h0
  show Calls Tryz.prog 20 #[.func (.yield lp) #[] #[], .pointer (some ⟨b1, 0, none⟩)] w _
  obtain ⟨h1, hs, _⟩ := hk w hk0
  refine cN (n := 19) Tryz.func20 rfl rfl rfl ?_
  refine q0 ?_
  refine lC (oD tK (h1.cell 0 _ rfl) rfl rfl rfl rfl rfl ?_)
  refine lC (o_len tK hs rfl rfl rfl rfl rfl ?_)
  refine lC (o_ai rfl rfl rfl (by omega) rfl rfl ?_)
  refine lP 1 tK rfl (q1 (cB ?_))
  refine c_loop (X := Nat) (fun j => [(0, .func (.yield lp) #[] #[]), (1, .pointer (some ⟨b1, 0, none⟩)), (3, .int .i64 ((j : Int) - 1))]) (fun j w' => j ≤ l.length ∧ J (l.length - j) w' ∧ Kp w0 w') (fun j => j) (l.length) (s3 rfl rfl rfl) ?_ ?_
  · exact ⟨lR _, by rw [Nat.sub_self]; exact h0, hk0⟩
  clear h1 hs
  rintro j w1 ⟨hj, hJ, hkp⟩
  refine cS (q0 (lP 2 tK rfl (q1 ?_)))
  refine cP _ rfl (fun hc => ?_) (fun hc => ?_)
  · obtain ⟨j0, rfl⟩ : ∃ j0, j = j0 + 1 := ⟨j - 1, by omega⟩
    have hj0 : j0 < l.length := by omega
    obtain ⟨h1, hs, hel⟩ := hk _ hkp
    obtain ⟨rfl, hat⟩ := hel j0 _ (gE hj0)
    have hy := hround (l.length - (j0 + 1)) (Value.int .i64 (((j0 + 1 : Nat) : Int) - 1), Value.string l[j0]) _ hJ (by rw [backLS_get (by omega), show l.length - 1 - (l.length - (j0 + 1)) = j0 by omega, gE hj0]; congr 3; omega)
    simp only at hy
    refine cK (xS (cS (cB (cS ?_))))
    refine c_regI (m := m) (l := [0, 1, 2, 3, 4, 5, 6, 7]) rfl ?_
    refine li_cons rfl rfl (fun ⟨_, _, h⟩ => h) (o_p tK rfl rfl rfl ?_)
    refine li_cons rfl rfl (fun ⟨_, _, h⟩ => h) (o_p tK rfl rfl rfl ?_)
    refine li_cons rfl rfl (fun ⟨_, _, h⟩ => h) (oD tK (h1.cell 0 _ rfl) rfl rfl rfl rfl rfl ?_)
    refine li_cons rfl rfl (fun ⟨_, _, h⟩ => h) (o_p tK rfl rfl rfl ?_)
    refine li_cons rfl rfl (fun ⟨_, _, h⟩ => h) (o_ix tK rfl rfl rfl rfl rfl (j := j0) (by omega) hj0 rfl rfl ?_)
    refine li_cons rfl rfl (fun ⟨_, _, h⟩ => h) (oD tK (hat.cell 0 _ rfl) rfl rfl rfl rfl rfl ?_)
    refine li_yield rfl rfl rfl rfl hy ?_
    rintro _ w2 ⟨rfl, hJ2, hkp2⟩
    refine ⟨true, rfl, ?_⟩
    refine li_cons rfl rfl (fun ⟨_, _, h⟩ => h) (o_p tK rfl rfl rfl ?_)
    refine li_nil ?_
    refine xS (c_ifF rfl (cK (x_blk (xS (cG (lP 1 tK rfl ?_))))))
    refine lC (o_ai rfl rfl rfl (by omega) rfl rfl ?_)
    refine lP 1 tK rfl (lN ?_)
    exact x_round (j0) (s3 rfl rfl (gN rfl (by omega))) ⟨by omega, by rw [show l.length - j0 = l.length - (j0 + 1) + 1 by omega]; exact hJ2, hKt _ _ _ hkp hkp2⟩ (by omega)
  obtain rfl : j = 0 := by omega
  refine c_exit (xE (xE (x_blkE ?_)))
  refine x_ret0n rfl ?_
  show J (backLS l).length _
  rw [show (backLS l).length = l.length by simp [backLS]]
  exact hJ
end Go.Proofs.YtpoahmeacjggfaaGreat
namespace Rw
open Go Go.RowKit
/-- As WC, with these deferred calls. -/
def WD (ds : List Deferred) (P : Program) (n : Nat) (Q : Exit → Act → World → Prop) (G : Env) (w : World) (c : Code) : Prop := ∀ a, Models n a G → c.wp P Q (wd ds a) w
/-- As WX. -/
def WE (ds : List Deferred) (n : Nat) (Q : Exit → Act → World → Prop) (G : Env) (w : World) (e : Exit) : Prop := ∀ a, Models n a G → Q e (wd ds a) w
/-- What is asked behind a region. -/
def QD (ds : List Deferred) (Q : Exit → Act → World → Prop) : Exit → Act → World → Prop := Ends fun a w => Q .normal (wd ds a) w
section
variable {ds : List Deferred} {P : Program} {n : Nat} {ops : Array Oper} {Q : Exit → Act → World → Prop} {G : Env} {w : World} {l : List Oper}
theorem dl_nil (h : WE ds n Q G w .normal) : WL P n ops (QD ds Q) G w [] := fun a ha => ⟨rfl, ha.defers, h a ha⟩
theorem dc_reg {id : Nat} (h : WL P n l.toArray (QD ds Q) G w l) (hd : l.all noDef = true := by rfl) : WD ds P n Q G w (.region id l.toArray false) :=
  fun a ha => (wpIn_wide (n := 0)).1 (ri_reg (r := none) hd (fun _ _ h => h) h a ha)
theorem dc_seq {x y : Code} (h : WD ds P n (Exit.then (y.wp P Q) Q) G w x) : WD ds P n Q G w (.seq x y) := fun a ha => wp_seq (h a ha)
theorem dc_blk {id : Nat} {c : Code} (h : WD ds P n (Exit.inBlock id Q) G w c) : WD ds P n Q G w (.block id c) := fun a ha => wp_block (h a ha)
theorem dc_skip (h : WE ds n Q G w .normal) : WD ds P n Q G w .skip := fun a ha => wp_skip (h a ha)
theorem dc_exit {id : Nat} (h : WE ds n Q G w (.exit id)) : WD ds P n Q G w (.exit id) := fun a ha => wp_exit (h a ha)
theorem dc_ret (h : WE ds n Q G w .ret) : WD ds P n Q G w .ret := fun a ha => wp_ret (h a ha)
theorem dc_if {c : Operand} {x y : Code} (b : Bool) (hc : Env.ev G c = some (.bool b)) (ht : b = true → WD ds P n Q G w x) (hf : b = false → WD ds P n Q G w y) : WD ds P n Q G w (.cond c x y) :=
  fun a ha => wp_cond_split (a := wd ds a) (ha.ev hc) (fun h => ht h a ha) (fun h => hf h a ha)
theorem dc_ifP {c : Operand} {x y : Code} (p : Prop) [Decidable p] (hc : Env.ev G c = some (.bool (decide p))) (ht : p → WD ds P n Q G w x) (hf : ¬ p → WD ds P n Q G w y) : WD ds P n Q G w (.cond c x y) :=
  dc_if _ hc (fun h => ht (of_decide_eq_true h)) (fun h => hf (of_decide_eq_false h))
theorem dx_seq {y : Code} (h : WD ds P n Q G w y) : WE ds n (Exit.then (y.wp P Q) Q) G w .normal := h
theorem dx_seqE {K : Act → World → Prop} {i : Nat} (h : WE ds n Q G w (.exit i)) : WE ds n (Exit.then K Q) G w (.exit i) := h
theorem dx_blk {id : Nat} (h : WE ds n Q G w .normal) : WE ds n (Exit.inBlock id Q) G w .normal := h
theorem dx_blkE {id : Nat} (h : WE ds n Q G w .normal) : WE ds n (Exit.inBlock id Q) G w (.exit id) := fun a ha => by simpa [Exit.inBlock] using h a ha
theorem dc_loop {c : Code} {X : Type} (E : X → Env) (R : X → World → Prop) (mu : X → Nat) (x0 : X) (h0 : SubL G (E x0)) (hR : R x0 w)
    (round : ∀ x w, R x w → WD ds P n (Exit.then (fun a' w' => ∃ a1, a' = wd ds a1 ∧ ∃ x', Models n a1 (E x') ∧ R x' w' ∧ mu x' < mu x) Q) (E x) w c) : WD ds P n Q G w (.loop c) := by
  intro a ha b k cs
  have key : ∀ m x, mu x = m → ∀ a w, Models n a (E x) → R x w →
      ∃ e a' w', Q e a' w' ∧ Arrives P (lone (b.at (wd ds a) (.code c :: .inLoop c :: k)) cs w) b k cs e a' w' := by
    intro m
    induction m using Nat.strongRecOn with
    | _ m ih =>
      intro x hx a w hm hr
      obtain ⟨e, a₁, w₁, hq, harr⟩ := round x w hr a hm b (.inLoop c :: k) cs
      cases e with
      | normal =>
        obtain ⟨a2, rfl, x', hm', hr', hlt⟩ := hq
        obtain ⟨e₂, a₂, w₂, hq₂, harr₂⟩ := ih (mu x') (hx ▸ hlt) x' rfl a2 w₁ hm' hr'
        exact ⟨e₂, a₂, w₂, hq₂, .of_steps (Steps.trans harr (.one step_inLoop)) harr₂⟩
      | exit id => exact ⟨_, a₁, w₁, hq, .pass (x := .inLoop c) rfl (fun _ _ => .inl (by simp)) harr⟩
      | goto l => exact ⟨_, a₁, w₁, hq, .pass (x := .inLoop c) rfl (fun _ _ => .inl (by simp)) harr⟩
      | ret => exact ⟨_, a₁, w₁, hq, .pass (x := .inLoop c) rfl (fun _ _ => .inl (by simp)) harr⟩
      | panic ch => exact ⟨_, a₁, w₁, hq, .pass (x := .inLoop c) rfl (fun _ _ => .inl (by simp)) harr⟩
      | outgrown => exact ⟨_, a₁, w₁, hq, .pass (x := .inLoop c) rfl (fun _ _ => .inl (by simp)) harr⟩
  obtain ⟨e, a', w', hq, harr⟩ := key _ x0 rfl a w (ha.sub (Sub.of h0)) hR
  exact ⟨e, a', w', hq, .of_steps (.one step_loop) harr⟩
theorem dc_loop3 {c : Code} {X Y Z : Type} (E : X → Y → Z → Env) (R : X → Y → Z → World → Prop) (mu : X → Y → Z → Nat) (x0 : X) (y0 : Y) (z0 : Z) (h0 : SubL G (E x0 y0 z0)) (hR : R x0 y0 z0 w)
    (round : ∀ x y z w, R x y z w → WD ds P n (Exit.then (fun a' w' => ∃ a1, a' = wd ds a1 ∧ ∃ x' y' z', Models n a1 (E x' y' z') ∧ R x' y' z' w' ∧ mu x' y' z' < mu x y z) Q) (E x y z) w c) : WD ds P n Q G w (.loop c) :=
  dc_loop (X := X × Y × Z) (fun q => E q.1 q.2.1 q.2.2) (fun q => R q.1 q.2.1 q.2.2) (fun q => mu q.1 q.2.1 q.2.2) (x0, y0, z0) h0 hR
    (fun q w hr a ha => wp_mono (round q.1 q.2.1 q.2.2 w hr a ha) (fun e a' w' h => by
      cases e <;> first | exact h | (obtain ⟨a1, h0, x', y', z', h1, h2, h3⟩ := h; exact ⟨a1, h0, (x', y', z'), h1, h2, h3⟩)))
theorem dx_round3 {X Y Z : Type} {E : X → Y → Z → Env} {R : X → Y → Z → World → Prop} {m : X → Y → Z → Nat} {b : Nat} (x' : X) (y' : Y) (z' : Z) (hs : SubL G (E x' y' z')) (hR : R x' y' z' w) (hm : m x' y' z' < b) :
    WE ds n (Exit.then (fun a' w' => ∃ a1, a' = wd ds a1 ∧ ∃ x' y' z', Models n a1 (E x' y' z') ∧ R x' y' z' w' ∧ m x' y' z' < b) Q) G w .normal :=
  fun a ha => ⟨a, rfl, x', y', z', ha.sub (Sub.of hs), hR, hm⟩
theorem dx_ret1 {m : Nat} {fn : Func} {R : Value → World → Prop} {t D : Nat} {v : Value} (hD : w.heap[D]? = some (.deferred (some []))) (hr : fn.results = #[.tmp t]) (hv : Env.get G t = some v) (h : R v (w.putObj D (.deferred none))) :
    WE [{ target := .collected D, args := #[] }] n (bodyPostM (Fr none) m P fn (Ret R)) G w .ret := fun a ha => m_ret hD (x1_ hr hv h a ha)
end
theorem dx_start {ds : List Deferred} {P : Program} {n : Nat} {Q : Exit → Act → World → Prop} {G : Env} {w : World} {y : Code} (h : WD ds P n Q G w y) (a : Act) (ha : Models n a G) : Exit.then (y.wp P Q) Q .normal (wd ds a) w := h a ha
/-! ## A map that only is read; the mark; what is kept when the mark is taken -/
structure MapRd {κ ν : Type} [Key κ] (va : ν → Value) (M : Nat → Prop) (w : World) (b : Nat) (l : List (κ × ν)) : Prop where
  map : MapL va w b l
  nM : ¬ M b
structure MkAt (M : Nat → Prop) (w : World) (D : Nat) : Prop where
  heap : w.heap[D]? = some (.deferred (some []))
  nM : ¬ M D
section
variable {κ ν : Type} [Key κ] {va : ν → Value} {B : Nat} {M M' : Nat → Prop} {w w' : World} {b D : Nat} {l : List (κ × ν)}
theorem MapRd.Y (h : MapRd va M w b l) (e : Ext w w') : MapRd va M w' b l := ⟨h.map.Y e, h.nM⟩
theorem MapRd.sp (h : MapRd va M w b l) (s : Stp B M M' w w') : MapRd va M' w' b l := ⟨h.map.keep (s.upd.2 b h.map.lt h.nM), fun hm => h.nM (s.wk b h.map.lt hm)⟩
theorem MkAt.lt (h : MkAt M w D) : D < w.heap.size := (Array.getElem?_eq_some_iff.1 h.heap).1
theorem MkAt.Y (h : MkAt M w D) (e : Ext w w') : MkAt M w' D := ⟨(e.block D h.lt).trans h.heap, h.nM⟩
theorem MkAt.sp (h : MkAt M w D) (s : Stp B M M' w w') : MkAt M' w' D := ⟨(s.upd.2 D h.lt h.nM).trans h.heap, fun hm => h.nM (s.wk D h.lt hm)⟩
end
theorem Sl.carry {α : Type} [Rep α] {M : Nat → Prop} {W W' : World} {v : Value} {l : List α} (hR : ∀ (u : Value) (x : α), Rep.R M W u x → Rep.R M W' u x) (hat : ∀ {b off : Nat} {cs : List Value}, At M W b off cs → At M W' b off cs) (h : Sl M W v l) : Sl M W' v l := by
  obtain ⟨a, c, h1, h2, h3, he⟩ := h
  refine ⟨a, c, h1, h2, h3, ?_⟩
  rcases he with he | ⟨b, off, ha, hx⟩
  · exact .inl he
  · exact .inr ⟨b, off, ha, fun i x hi => let ⟨u, k1, k2⟩ := hx i x hi; ⟨u, hR u x k1, hat k2⟩⟩
theorem Sl.putII {M : Nat → Prop} {W : World} {l : Nat} {o o' : Obj} {v : Value} {rows : List (List Int)} (hl : W.heap[l]? = some o) (hc : o.isCells = false) (h : Sl M W v rows) : Sl M (W.putObj l o') v rows :=
  Sl.carry (W := W) (fun _ _ hr => Sl.carry (W := W) (fun _ _ h => h) (fun k => put_at hl hc k) hr) (fun k => put_at hl hc k) h
end Rw
namespace Go.Proofs.YtpoahmeacjggfaaGreat
open Go Rw Go.RowKit
set_option maxRecDepth 100000
/-- The names that an expression needs: those that are free, if it is one. -/
def needF (t : Tm) : List ByteArray := bif rightT t false then freeR t else []
theorem needF_nodup (t : Tm) : (needF t).Nodup := by
  unfold needF
  cases rightT t false
  · exact List.nodup_nil
  · exact (freeR_ris t).nodup
theorem needF_len (t : Tm) : (needF t).length ≤ nsz t := by
  unfold needF
  cases rightT t false
  · exact Nat.zero_le _
  · exact freeR_len t
theorem needsR_srt {l : List ByteArray} {ts : List Tm} {i : Nat} (h : i < ts.length) : needsR l ts i = srtI (numsOf l (needF ts[i])) := by
  unfold needsR srtI
  rw [gE h, needL_law l (needF_nodup _)]
  simp only
  unfold needF
  cases rightT ts[i] false
  · show [] = needL l []
    unfold needL
    rw [List.filter_eq_nil_iff.2 fun k _ h => by obtain ⟨s, hs, _⟩ := (needB_iff l [] k).1 h; cases hs]
    rfl
  · rfl
theorem backM_step {l : List ByteArray} {k : Nat} (h : k < l.length) : backM (l.drop (l.length - (k + 1))) (l.length - (k + 1)) = putK (backM (l.drop (l.length - k)) (l.length - k)) ((l[l.length - 1 - k]?).getD ⟨#[]⟩) ((l.length : Int) - 1 - (k : Int)) := by
  have hi : l.length - 1 - k < l.length := by omega
  rw [show l.length - (k + 1) = l.length - 1 - k by omega, List.drop_eq_getElem_cons hi, backM, gE hi, Option.getD_some, show l.length - 1 - k + 1 = l.length - k by omega]
  congr 1; omega
theorem backM_at (l : List ByteArray) (x : ByteArray) : getK (backM l 0) x = (firstI l x).map fun k => (k : Int) := by
  rw [backM_get]
  cases firstI l x <;> simp
/-- Between two rounds: the map so far. -/
def NI (M : Nat → Prop) (B : Nat) (w wr : World) (bm : Nat) (l : List ByteArray) (k : Nat) (W : World) : Prop :=
  OM (κ := ByteArray) (fun x : Int => Value.int .i64 x) B M W bm (backM (l.drop (l.length - k)) (l.length - k)) ∧ Low M W ∧ B ≤ W.heap.size ∧ Below B w W ∧ wr.heap.size ≤ W.heap.size ∧ ∀ x, x < wr.heap.size → x ≠ bm → W.heap[x]? = wr.heap[x]?
theorem NI.alloc {M : Nat → Prop} {B : Nat} {w wr : World} {bm k : Nat} {l : List ByteArray} {W : World} (o : Obj) (h : NI M B w wr bm l k W) : NI M B w wr bm l k (W.alloc o) := by
  obtain ⟨hm, Lw, hB, hE, hs, hf⟩ := h
  have e := ext_alloc W o
  exact ⟨hm.Y Lw hB e, Lw.Y e, Nat.le_trans hB e.size, hE.trans (Below.mono e hB), Nat.le_trans hs e.size, fun x hx hn => (e.block x (lT hx hs)).trans (hf x hx hn)⟩
theorem NI.put {M : Nat → Prop} {B : Nat} {w wr : World} {bm k : Nat} {l : List ByteArray} {W : World} {q : Nat} {o' : Obj} (h : NI M B w wr bm l k W) (hB0 : B ≤ wr.heap.size) (hb : bm < wr.heap.size) (hq : wr.heap.size ≤ q) : NI M B w wr bm l k (W.putObj q o') := by
  obtain ⟨hm, Lw, hB, hE, hs, hf⟩ := h
  exact ⟨⟨hm.map.keep (World.putObj_heap_other (by omega)), hm.inM, hm.ge⟩, put_low Lw, by simpa using hB, put_below hE (by omega) hB, by simpa using hs, fun x hx hn => (World.putObj_heap_other (by omega)).trans (hf x hx hn)⟩
theorem needs_spec (l : List ByteArray) (ts : List Tm) (m : Nat) (M : Nat → Prop) (w : World) (vn vt : Value) (hn : Sl M w vn l) (ht : Sl M w vt ts) (hlow0 : Low M w) (hl : l.length ≤ 1000000) (hz : ∀ t ∈ ts, AnnS t ∧ nsz t ≤ 2000000) :
    Calls Tryz.prog 6 #[vn, vt] w (Ret fun r w' => Sl M w' r ((List.range l.length).map (needsR l ts)) ∧ Ext w w') := by
  have Lw := hlow0
  have hB := lR w.heap.size
  have hE := Below.refl w.heap.size w
  have hsub : ∀ b, M b → M b := fun _ h => h
  have hL := hn.lt
  have hlt := ht.lt
  refine c_enterM (n := 68) (m := m) Tryz.func6 rfl rfl rfl ?_
  refine q0 (lP 1 tK rfl (q1 (q0 ?_)))
  refine lC (o_mkmap (κ := ByteArray) (ν := Int) (va := (fun x : Int => Value.int .i64 x)) rfl rfl ?_)
  intro bm w1 qbm ew1 ltbm hbm
  have sw1 := Stp.add ew1 Lw hB (lQ qbm.symm) ltbm
  have hm : OM (κ := ByteArray) (fun x : Int => Value.int .i64 x) w.heap.size (Rw.Add M bm) w1 bm [] := OM.mk' hbm qbm hB
  replace hE := hE.trans sw1.below
  replace hn := hn.sp sw1
  replace ht := ht.sp sw1
  replace hsub := sw1.sb hsub
  replace Lw := sw1.low
  replace hB := sw1.z hB
  refine lC (o_new tK rfl rfl rfl ?_)
  intro b5 w2 qb5 ew2 hb5
  have nb5 := nO Lw qb5
  refine lC (o_st tK hb5 rfl rfl rfl rfl (by simp [Value.cells, Value.oneCell']) rfl rfl ?_)
  intro w3 h5 uw3 bew3
  have ew3 : Ext w1 w3 := ew2.trans (bew3 _ (lQ qb5.symm))
  replace hm := hm.Y Lw hB ew3
  replace hE := ew3.bl hE hB
  replace hn := hn.Y ew3
  replace ht := ht.Y ew3
  replace Lw := Lw.Y ew3
  replace hB := ew3.z hB
  replace h5 : Box w3 b5 38 [.map (some bm)] := h5
  replace h5 := h5.at nb5
  refine q1 (cS (q0 (lP 1 tK rfl ?_)))
  refine lC (oK fo11 rfl rfl rfl (backwardS_spec _ _ vn l hn Lw) ?_)
  rintro _ w4 ⟨⟨bb, rfl, hbb⟩, ew4⟩
  replace hm := hm.Y Lw hB ew4
  replace hE := ew4.bl hE hB
  replace hn := hn.Y ew4
  replace ht := ht.Y ew4
  replace h5 := h5.Y ew4
  replace Lw := Lw.Y ew4
  replace hB := ew4.z hB
  refine q1 (cB ?_)
  obtain ⟨bs, off, cap, us, hus⟩ := sl_choose hn
  have hbr : bm < w4.heap.size := hm.lt
  have hB0 : w.heap.size ≤ w4.heap.size := hB
  refine c_range (N := 1) (range_wp (m := m) (xs := backLS l) (I := fun k W => NI (Rw.Add M bm) w.heap.size w w4 bm l k W) (Kp := fun A B => A.heap.size ≤ B.heap.size ∧ ∀ x, x < w4.heap.size → x ≠ bm → B.heap[x]? = A.heap[x]?)
    rfl fo20 rfl rfl (backwardS_iter (Rw.Add M bm) w4 bb bs off cap m vn l _ hL (fun A B C h k => ⟨Nat.le_trans h.1 k.1, fun x hx hn => (k.2 x hx hn).trans (h.2 x hx hn)⟩) (fun W hW => ?_))
    (fun A B C h k => ⟨Nat.le_trans h.1 k.1, fun x hx hn => (k.2 x hx hn).trans (h.2 x hx hn)⟩) (fun W q o' hq => ⟨by simp, fun x hx _ => World.putObj_heap_other (by omega)⟩) (fun W o hs => ⟨by simp, fun x hx _ => (ext_alloc W o).block x (by omega)⟩)
    ?_ (fun W o h => h.alloc o) (fun k W q o o' h hq ho hc => h.put hB0 hbr hq) ?_ ?_)
  · have hU : Upd (Rw.Add M bm) w4 W := ⟨hW.1, fun x hx hn => hW.2 x hx (fun e => hn (e ▸ hm.inM))⟩
    refine ⟨hbb.upd hU, hn.upd hU, fun i x hx => ?_⟩
    obtain ⟨h1, ⟨h2, _⟩, h3⟩ := hus i x hx
    rw [h2] at h3
    exact ⟨h1, h3.upd hU⟩
  · show NI _ _ _ _ _ _ 0 _
    refine ⟨?_, Lw, hB, hE, lR _, fun _ _ _ => rfl⟩
    rw [Nat.sub_zero, List.drop_length]
    exact hm
  · intro k x W lp hI hx a ha
    obtain ⟨hkl, rfl⟩ := backLS_of hx
    obtain ⟨hm, Lw, hB, hE, hsz, hfr⟩ := hI
    have hi : l.length - 1 - k < l.length := by omega
    have hU : Upd (Rw.Add M bm) w4 W := ⟨hsz, fun x hx hn => hfr x hx (fun e => hn (e ▸ hm.inM))⟩
    replace h5 := h5.upd hU
    refine wpIn_seq (F := Fr (some lp)) (ri_reg0 rfl (fun a w h => h) ?_ a ha)
    refine lP 1 tK rfl (lN ?_)
    intro a1 ha1
    refine ⟨rfl, ha1.defers, ha1.defers, ?_⟩
    refine ri_reg0 (K := fun a1 w1 => KeepsFrom w4.heap.size W w1 ∧ (W.heap.size ≤ w1.heap.size ∧ ∀ x, x < w4.heap.size → x ≠ bm → w1.heap[x]? = W.heap[x]?) ∧ _) rfl (fun a1 w1 h => ⟨rfl, h.1, h.2.1, h.2.2⟩) ?_ a1 ha1
    refine lP 1 tK rfl (lN ?_)
    intro a2 ha2
    refine ⟨rfl, ha2.defers, ha2.defers, ext_keeps (ext_refl _), ⟨lR _, fun _ _ _ => rfl⟩, ?_⟩
    intro o o' hlp ho hoc
    have hfr2 : ∀ x, x < w4.heap.size → x ≠ bm → (W.putObj lp o').heap[x]? = w4.heap[x]? := fun x hx hn => (World.putObj_heap_other (by omega)).trans (hfr x hx hn)
    have hsz2 : w4.heap.size ≤ (W.putObj lp o').heap.size := by simpa using hsz
    replace hm : OM _ _ _ (W.putObj lp o') bm _ := ⟨hm.map.keep (World.putObj_heap_other (by omega)), hm.inM, hm.ge⟩
    replace h5 := put_at (o' := o') ho hoc h5
    replace Lw := put_low (l := lp) (o' := o') Lw
    replace hE := put_below (l := lp) (o' := o') hE (by omega) hB
    replace hB : w.heap.size ≤ (W.putObj lp o').heap.size := by simpa using hB
    generalize hW2 : W.putObj lp o' = W2 at hfr2 hsz2 hm h5 Lw hE hB
    have hU2 := UpdB.refl bm W2
    refine wpIn_block (ri_reg0 (K := fun a1 w3 => KeepsFrom w4.heap.size W2 w3 ∧ (W2.heap.size ≤ w3.heap.size ∧ ∀ x, x < w4.heap.size → x ≠ bm → w3.heap[x]? = W2.heap[x]?) ∧ _) rfl (fun a1 w1 h => ⟨rfl, h.1, h.2.1, h.2.2⟩) ?_ a2 ha2)
    refine lC (oD tK (h5.cell 0 _ rfl) rfl rfl rfl rfl rfl ?_)
    refine lP 2 tK rfl ?_
    refine lC (o_mupd tK hm.map (k := ((l[l.length - 1 - k]?).getD ⟨#[]⟩)) (v := ((l.length : Int) - 1 - (k : Int))) rfl rfl rfl rfl rfl ⟨_, Tryz.underlying9, rfl⟩ rfl ?_)
    intro w5 hw5 qw5 bew5
    have uw5 : UpdB _ _ _ := ⟨qw5, bew5⟩
    have sw5 := uw5.sp hm.inM Lw hm.ge
    have frw5 := qw5.2
    replace hU2 := hU2.trans uw5
    replace hE := hE.trans sw5.below
    replace h5 := h5.sp sw5
    replace Lw := sw5.low
    replace hB := sw5.z hB
    replace hm : OM _ _ _ w5 _ (putK (backM (l.drop (l.length - k)) (l.length - k)) ((l[l.length - 1 - k]?).getD ⟨#[]⟩) ((l.length : Int) - 1 - (k : Int))) := ⟨hw5, hm.inM, hm.ge⟩
    refine lN ?_
    intro a3 ha3
    refine ⟨rfl, ha3.defers, ha3.defers, ⟨hU2.upd.1, fun q o hq ho _ => (hU2.upd.2 q (Array.getElem?_eq_some_iff.1 ho).1 (by omega)).trans ho⟩, ⟨hU2.upd.1, fun x hx hn => hU2.upd.2 x (lT hx hsz2) hn⟩, ?_⟩
    show NI _ _ _ _ _ _ (k + 1) _
    rw [← backM_step hkl] at hm
    exact ⟨hm, Lw, hB, hE, Nat.le_trans hsz2 hU2.upd.1, fun x hx hn => (hU2.upd.2 x (lT hx hsz2) hn).trans (hfr2 x hx hn)⟩
  · intro a D W ha hD hI hDd
    rw [show (backLS l).length = l.length by simp [backLS]] at hI
    obtain ⟨hm, hlow1, hB, hE, hsz, hfr⟩ := hI
    rw [Nat.sub_self, List.drop_zero] at hm
    have hU : Upd (Rw.Add M bm) w4 W := ⟨hsz, fun x hx hn => hfr x hx (fun e => hn (e ▸ hm.inM))⟩
    replace hn : Sl M W vn l := (hn.upd hU).wk fun b _ h => .inl h
    replace ht : Sl M W vt ts := (ht.upd hU).wk fun b _ h => .inl h
    replace h5 : At M W b5 0 [.map (some bm)] := (h5.upd hU).wk fun b _ h => .inl h
    replace hm : MapRd (fun x : Int => Value.int .i64 x) M W bm (backM l 0) := ⟨hm.map, fun h => by have := hlow0 _ h; have := hm.ge; omega⟩
    replace Lw : Low M W := fun b h => lT (hlow0 b h) hB
    have hD0 : w.heap.size ≤ D := Nat.le_trans hB0 hD
    replace hD : MkAt M W D := ⟨hDd, fun h => by have := hlow0 _ h; omega⟩
    replace hsub : ∀ b, M b → M b := fun _ h => h
    clear hlow1 hsz hfr hU hus hbb hDd
    refine dx_start ?_ a ha
    refine dc_seq ?_
    refine dc_reg ?_
    refine lP 1 tK rfl ?_
    refine lC (o_len tK hn rfl rfl rfl rfl rfl ?_)
    refine lC (o_mk ((⟨.slice none 0 0⟩ : Raw)) tK rfl rfl rfl rfl rfl rfl rfl rfl (fun _ _ => ⟨rfl, _, _, _, rfl⟩) (by show 24 * _ ≤ 140737488355328; omega) (by omega) Lw hB rfl rfl ?_)
    intro bw6 w6 qbw6 ew6 sw6 hback
    replace hE := hE.trans sw6.below
    replace hn := hn.sp sw6
    replace ht := ht.sp sw6
    replace h5 := h5.sp sw6
    replace hm := hm.sp sw6
    replace hD := hD.sp sw6
    replace hsub := sw6.sb hsub
    replace Lw := sw6.low
    replace hB := sw6.z hB
    have hbt : bw6 < w6.heap.size := (hback.lt bw6 rfl).2
    have hrows : MRows 3 w.heap.size (Rw.Add M bw6) w6 (.slice (some ⟨bw6, 0, none⟩) l.length l.length) (List.replicate l.length ⟨.slice none 0 0⟩) (rowsAt l ts 0 []) := by
      rw [rowsAt_zero]
      exact rows_start _
    refine lP 1 tK rfl ?_
    refine dl_nil ?_
    refine dx_seq ?_
    refine dc_seq ?_
    refine dc_seq ?_
    refine dc_reg ?_
    refine lP 1 tK rfl ?_
    refine lC (o_len tK hn rfl rfl rfl rfl rfl ?_)
    refine lP 1 tK rfl ?_
    refine lC (o_len tK ht rfl rfl rfl rfl rfl ?_)
    refine lP 2 tK rfl ?_
    refine dl_nil ?_
    refine dx_seq ?_
    refine dc_blk ?_
    obtain ⟨N, hN, hN1, hN2, hN3⟩ : ∃ N : Nat, (if (ts.length : Int) < (l.length : Int) then (ts.length : Int) else (l.length : Int)) = (N : Int) ∧ N ≤ l.length ∧ N ≤ ts.length ∧ (N = l.length ∨ N = ts.length) := by
      by_cases hc : ts.length < l.length
      · exact ⟨ts.length, if_pos (by omega), by omega, by omega, .inr rfl⟩
      · exact ⟨l.length, if_neg (by omega), by omega, by omega, .inl rfl⟩
    refine dc_loop3 (X := Nat) (Y := List Raw) (Z := Nat → Prop) (fun i vs M1 => [(0, vn), (1, vt), (5, .pointer (some ⟨b5, 0, none⟩)), (8, (.slice (some ⟨bw6, 0, none⟩) l.length l.length)), (29, .int .i64 (N : Nat)), (30, .int .i64 (i : Nat))]) (fun i vs M1 w' => i ≤ N ∧ OwnSl 35 w.heap.size M1 w' (.slice (some ⟨bw6, 0, none⟩) l.length l.length) vs ∧ MRows 3 w.heap.size M1 w' (.slice (some ⟨bw6, 0, none⟩) l.length l.length) vs (rowsAt l ts i []) ∧ Sl M1 w' vn l ∧ Sl M1 w' vt ts ∧ At M1 w' b5 0 [.map (some bm)] ∧ MapRd (fun x : Int => Value.int .i64 x) M1 w' bm (backM l 0) ∧ MkAt M1 w' D ∧ Low M1 w' ∧ (∀ b, M b → M1 b) ∧ Below w.heap.size w w' ∧ w.heap.size ≤ w'.heap.size) (fun i vs M1 => N - i) (0) (List.replicate l.length ⟨.slice none 0 0⟩) ((Rw.Add M bw6)) (s6 rfl rfl rfl rfl (gN rfl hN) rfl) ?_ ?_
    · exact ⟨Nat.zero_le _, hback, hrows, hn, ht, h5, hm, hD, Lw, hsub, hE, hB⟩
    clear hback hrows hn ht h5 hm hD Lw hsub hE hB
    rintro i vs M1 w7 ⟨hi, hback, hrows, hn, ht, h5, hm, hD, Lw, hsub, hE, hB⟩
    refine dc_seq ?_
    refine dc_reg ?_
    refine lP 1 tK rfl ?_
    refine dl_nil ?_
    refine dx_seq ?_
    refine dc_seq ?_
    refine dc_ifP _ rfl (fun c1 => ?_) (fun c1 => ?_)
    · refine dc_skip ?_
      refine dx_seq ?_
      refine dc_seq ?_
      refine dc_blk ?_
      refine dc_seq ?_
      refine dc_reg ?_
      refine lP 2 tK rfl ?_
      refine dl_nil ?_
      refine dx_seq ?_
      refine dc_seq ?_
      refine dc_seq ?_
      refine dc_reg ?_
      refine lP 2 tK rfl ?_
      have hit : i < ts.length := by omega
      obtain ⟨hza, hzn⟩ := hz _ (gM hit)
      refine lC (o_ixS tK ht (gE hit) rfl rfl rfl rfl rfl rfl rfl rfl rfl ?_)
      intro ebx2 eox2 eux2 hyx2 hatx2
      obtain ⟨akvx2, kvx2, rfl, opx2, nmx2, agx2, n64x2, hax2, hkx2⟩ := tm_open hyx2
      replace hatx2 : At M1 w7 ebx2 eox2 [.int .u8 ts[i].op, .string ts[i].name, .string ts[i].arg, .int .i64 ts[i].n, .bool ts[i].has, .int .u8 ts[i].ann.op, .string ts[i].ann.name, .int .i64 ts[i].ann.n, akvx2, kvx2] := hatx2
      refine lC (oL tK (fun j v hv => hatx2.cell j v hv) rfl rfl rfl rfl rfl rfl ?_)
      have hfl := needF_len ts[i]
      have hfs := free_spec ts[i] M1 _ _ hyx2 Lw hza (by omega)
      rw [show (bif rightT ts[i] false then freeS ts[i] else []) = (needF ts[i]) from by
        unfold needF
        cases hr : rightT ts[i] false with
        | true => exact freeS_law hr
        | false => rfl] at hfs
      refine lC (oK fo12 rfl rfl rfl (hfs) ?_)
      rintro vhf w8 ⟨hf, ew8⟩
      replace hback := hback.Y Lw hB ew8
      replace hrows := hrows.Y Lw hB ew8
      replace hE := ew8.bl hE hB
      replace hn := hn.Y ew8
      replace ht := ht.Y ew8
      replace h5 := h5.Y ew8
      replace hm := hm.Y ew8
      replace hD := hD.Y ew8
      replace hyx2 := Rep.Y hyx2 ew8
      replace hax2 := Rep.Y hax2 ew8
      replace hkx2 := hkx2.Y ew8
      replace hatx2 := hatx2.Y ew8
      replace Lw := Lw.Y ew8
      replace hB := ew8.z hB
      refine lC (o_len tK hf rfl rfl rfl rfl rfl ?_)
      refine lP 1 tK rfl ?_
      refine dl_nil ?_
      refine dx_seq ?_
      refine dc_blk ?_
      refine dc_loop3 (X := Nat) (Y := List Raw) (Z := Nat → Prop) (fun j vs M1 => [(0, vn), (1, vt), (5, .pointer (some ⟨b5, 0, none⟩)), (8, (.slice (some ⟨bw6, 0, none⟩) l.length l.length)), (9, .int .i64 (i : Nat)), (29, .int .i64 (N : Nat)), (30, .int .i64 (i : Nat)), (37, vhf), (38, .int .i64 ((needF ts[i]).length : Nat)), (39, .int .i64 (j : Nat))]) (fun j vs M1 w' => j ≤ (needF ts[i]).length ∧ OwnSl 35 w.heap.size M1 w' (.slice (some ⟨bw6, 0, none⟩) l.length l.length) vs ∧ MRows 3 w.heap.size M1 w' (.slice (some ⟨bw6, 0, none⟩) l.length l.length) vs (rowsAt l ts i (numsOf l ((needF ts[i]).take j))) ∧ Sl M1 w' vn l ∧ Sl M1 w' vt ts ∧ At M1 w' b5 0 [.map (some bm)] ∧ MapRd (fun x : Int => Value.int .i64 x) M1 w' bm (backM l 0) ∧ MkAt M1 w' D ∧ Low M1 w' ∧ (∀ b, M b → M1 b) ∧ Below w.heap.size w w' ∧ w.heap.size ≤ w'.heap.size ∧ Sl M1 w' vhf (needF ts[i])) (fun j vs M1 => (needF ts[i]).length - j) (0) (vs) (M1) (s10 rfl rfl rfl rfl rfl rfl rfl rfl rfl rfl) ?_ ?_
      · exact ⟨Nat.zero_le _, hback, by simpa [numsOf] using hrows, hn, ht, h5, hm, hD, Lw, hsub, hE, hB, hf⟩
      clear hback hrows hn ht h5 hm hD Lw hsub hE hB hf
      rintro j vs M1 w9 ⟨hj, hback, hrows, hn, ht, h5, hm, hD, Lw, hsub, hE, hB, hf⟩
      refine dc_seq ?_
      refine dc_reg ?_
      refine lP 1 tK rfl ?_
      refine dl_nil ?_
      refine dx_seq ?_
      refine dc_seq ?_
      refine dc_ifP _ rfl (fun c3 => ?_) (fun c3 => ?_)
      · refine dc_skip ?_
        refine dx_seq ?_
        refine dc_seq ?_
        refine dc_blk ?_
        refine dc_seq ?_
        refine dc_reg ?_
        have hjl : j < (needF ts[i]).length := by omega
        refine lC (o_ixS tK hf (gE hjl) rfl rfl rfl rfl rfl rfl rfl rfl rfl ?_)
        intro ebz eoz euz hrz hatz
        obtain ⟨rfl, hszz⟩ := hrz
        refine lC (oD tK (hatz.cell 0 _ rfl) rfl rfl rfl rfl rfl ?_)
        refine lP 1 tK rfl ?_
        refine dl_nil ?_
        refine dx_seq ?_
        refine dc_seq ?_
        refine dc_reg ?_
        refine lC (oD tK (h5.cell 0 _ rfl) rfl rfl rfl rfl rfl ?_)
        refine lP 1 tK rfl ?_
        refine lC (o_look (z := 0) tK hm.map (k := (needF ts[i])[j]) rfl rfl rfl rfl ⟨_, Tryz.underlying9, rfl⟩ rfl rfl rfl rfl ?_)
        refine lP 5 tK rfl ?_
        refine dl_nil ?_
        refine dx_seq ?_
        refine dc_seq ?_
        refine dc_reg ?_
        refine lP 1 tK rfl ?_
        refine dl_nil ?_
        refine dx_seq ?_
        refine dc_if _ rfl (fun c4 => ?_) (fun c4 => ?_)
        · obtain ⟨q, hfi⟩ : ∃ q, firstI l (needF ts[i])[j] = some q := by
            rw [backM_at] at c4
            cases hq : firstI l (needF ts[i])[j] with
            | none => rw [hq] at c4; cases c4
            | some q => exact ⟨q, rfl⟩
          have hgk : (getK (backM l 0) (needF ts[i])[j]).getD 0 = (q : Int) := by rw [backM_at, hfi]; rfl
          have hql := (firstI_some hfi).1
          refine dc_reg ?_
          refine lP 4 tK rfl ?_
          have hvv : i < vs.length := by rw [hrows.len, rowsAt_len]; omega
          refine lC (o_ixO tK hback (gE hvv) rfl rfl rfl rfl rfl rfl rfl rfl rfl ?_)
          intro b3 u3 hob3 hr3 hat3
          obtain ⟨rfl, hsl3⟩ := hr3
          replace hat3 := hat3.raw hsl3
          have hrow := hrows.row i vs[i] (numsOf l ((needF ts[i]).take j)) (gE hvv) (rowsAt_get ts (by omega) _)
          have hrl : (numsOf l ((needF ts[i]).take j)).length ≤ 2000000 := Nat.le_trans (numsOf_len _ _) (by rw [List.length_take]; omega)
          refine lC (oD tK (hat3.cell 0 _ rfl) rfl rfl rfl rfl rfl ?_)
          refine lP 1 tK rfl ?_
          have hbt : bw6 < w9.heap.size := (hback.lt bw6 rfl).2
          refine lC (o_bs tK rfl rfl rfl rfl rfl rfl rfl (sz1 rfl) rfl rfl rfl ?_)
          intro bw10 w10 qbw10 ew10 hbw10
          have nbw10 := nO Lw qbw10
          replace hback := hback.Y Lw hB ew10
          replace hrows := hrows.Y Lw hB ew10
          replace hrow := hrow.Y Lw hB ew10
          replace hE := ew10.bl hE hB
          replace hn := hn.Y ew10
          replace ht := ht.Y ew10
          replace h5 := h5.Y ew10
          replace hm := hm.Y ew10
          replace hD := hD.Y ew10
          replace hf := hf.Y ew10
          replace Lw := Lw.Y ew10
          replace hB := ew10.z hB
          refine lC (o_app1 tK hrow hbw10 nbw10 (show Rep.R _ _ _ (q : Int) from ⟨by rw [hgk]; rfl, by unfold I64; omega⟩) Lw hB rfl rfl rfl rfl rfl rfl rfl (by omega) (by show (_ + _) * 8 ≤ _; omega) rfl rfl ?_)
          intro vw11 w11 Mw11 hw11 sw11 frw11 blw11
          replace hback := hback.sp sw11 (fun x hx => frw11 x (hback.lt x hx).2 (fun e => hrows.top i vs[i] x (gE hvv) e.symm hx))
          replace hE := hE.trans sw11.below
          replace hn := hn.sp sw11
          replace ht := ht.sp sw11
          replace h5 := h5.sp sw11
          replace hm := hm.sp sw11
          replace hD := hD.sp sw11
          replace hf := hf.sp sw11
          replace hsub := sw11.sb hsub
          replace Lw := sw11.low
          replace hB := sw11.z hB
          replace hrow := hw11
          clear hw11
          replace hrows := hrows.app (gE hvv) sw11 frw11 blw11 hrow (fun b hb => by have := ob_eq hb; have := ew10.size; omega)
          have hval := hrow.val
          refine lC (o_ixO tK hback (gE hvv) rfl rfl rfl rfl rfl rfl rfl rfl rfl ?_)
          intro b4 u4 hob4 hr4 hat4
          refine lC (o_stO tK hback hob4 hvv (z := ⟨vw11⟩) ⟨rfl, hval.elim fun a h => h.elim fun c h => ⟨a, _, c, h.1⟩⟩ Lw rfl rfl rfl rfl rfl rfl ?_)
          intro w12 hw12 sw12 frw12
          replace hrows := hrows.sp sw12 (fun i x b hx hb => frw12 b (hrows.lt hx hb).2 (fun e => hrows.top i x b hx hb (e ▸ hob4)))
          replace hE := hE.trans sw12.below
          replace hn := hn.sp sw12
          replace ht := ht.sp sw12
          replace h5 := h5.sp sw12
          replace hm := hm.sp sw12
          replace hD := hD.sp sw12
          replace hf := hf.sp sw12
          replace hsub := sw12.sb hsub
          replace Lw := sw12.low
          replace hB := sw12.z hB
          replace hback := hw12
          clear hw12
          rw [rowsAt_set ts (by omega)] at hrows
          refine dl_nil ?_
          refine dx_blk ?_
          refine dx_seq ?_
          refine dc_reg ?_
          refine lC (o_ai rfl rfl rfl (by omega) rfl rfl ?_)
          refine lP 1 tK rfl ?_
          refine dl_nil ?_
          exact dx_round3 (j + 1) (vs.set i ⟨vw11⟩) (Mw11) (s10 rfl rfl rfl rfl rfl rfl rfl rfl rfl (gN rfl (by omega))) ⟨by omega, hback, by rw [numsOf_step hjl, hfi]; simpa using hrows, hn, ht, h5, hm, hD, Lw, hsub, hE, hB, hf⟩ (by omega)
        have hfi : firstI l (needF ts[i])[j] = none := by
          rw [backM_at] at c4
          cases hq : firstI l (needF ts[i])[j] with
          | none => rfl
          | some q => rw [hq] at c4; cases c4
        refine dc_skip ?_
        refine dx_blk ?_
        refine dx_seq ?_
        refine dc_reg ?_
        refine lC (o_ai rfl rfl rfl (by omega) rfl rfl ?_)
        refine lP 1 tK rfl ?_
        refine dl_nil ?_
        exact dx_round3 (j + 1) (vs) (M1) (s10 rfl rfl rfl rfl rfl rfl rfl rfl rfl (gN rfl (by omega))) ⟨by omega, hback, by rw [numsOf_step hjl, hfi]; simpa using hrows, hn, ht, h5, hm, hD, Lw, hsub, hE, hB, hf⟩ (by omega)
      refine dc_exit ?_
      refine dx_seqE ?_
      refine dx_seqE ?_
      refine dx_blkE ?_
      refine dx_seq ?_
      refine dc_reg ?_
      refine lP 2 tK rfl ?_
      have hjj : j = (needF ts[i]).length := by omega
      subst hjj
      rw [List.take_of_length_le (lR _)] at hrows
      have hvv : i < vs.length := by rw [hrows.len, rowsAt_len]; omega
      refine lC (o_ixO tK hback (gE hvv) rfl rfl rfl rfl rfl rfl rfl rfl rfl ?_)
      intro b3 u3 hob3 hr3 hat3
      obtain ⟨rfl, hsl3⟩ := hr3
      replace hat3 := hat3.raw hsl3
      have hrow := hrows.row i vs[i] (numsOf l (needF ts[i])) (gE hvv) (rowsAt_get ts (by omega) _)
      have hrl : (numsOf l (needF ts[i])).length ≤ 2000000 := Nat.le_trans (numsOf_len _ _) (by omega)
      refine lC (oD tK (hat3.cell 0 _ rfl) rfl rfl rfl rfl rfl ?_)
      refine lC (oK fo13 rfl rfl rfl (sortI_spec _ _ _ _ hrow Lw (by omega)) ?_)
      rintro _ w13 ⟨rfl, how13, sw13, frw13⟩
      replace hrows := hrows.inPlace (gE hvv) sw13 frw13 how13
      rw [rowsAt_set ts (by omega)] at hrows
      replace hback := hback.sp sw13 (fun x hx => frw13 x (hback.lt x hx).2 (fun b hb e => hrows.top i vs[i] b (gE hvv) hb (e ▸ hx)))
      replace hE := hE.trans sw13.below
      replace hn := hn.sp sw13
      replace ht := ht.sp sw13
      replace h5 := h5.sp sw13
      replace hm := hm.sp sw13
      replace hD := hD.sp sw13
      replace hf := hf.sp sw13
      replace hsub := sw13.sb hsub
      replace Lw := sw13.low
      replace hB := sw13.z hB
      refine dl_nil ?_
      refine dx_blk ?_
      refine dx_seq ?_
      refine dc_reg ?_
      refine lC (o_ai rfl rfl rfl (by omega) rfl rfl ?_)
      refine lP 1 tK rfl ?_
      refine dl_nil ?_
      exact dx_round3 (i + 1) (vs) (M1) (s6 rfl rfl rfl rfl rfl (gN rfl (by omega))) ⟨by omega, hback, by rw [← rowsAt_step, needsR_srt hit]; exact hrows, hn, ht, h5, hm, hD, Lw, hsub, hE, hB⟩ (by omega)
    refine dc_exit ?_
    refine dx_seqE ?_
    refine dx_seqE ?_
    refine dx_blkE ?_
    refine dx_seq ?_
    refine dc_seq ?_
    refine dc_reg ?_
    refine lP 2 tK rfl ?_
    refine dl_nil ?_
    refine dx_seq ?_
    refine dc_ret ?_
    refine dx_ret1 hD.heap rfl rfl ?_
    have hfin : rowsAt l ts i [] = (List.range l.length).map (needsR l ts) := by
      have hiN : i = N := by omega
      rcases hN3 with h | h
      · exact rowsAt_full (by omega)
      · exact rowsAt_end (by omega)
    have hrl : ∀ r ∈ rowsAt l ts i [], r.length < 140737488355328 := fun r hr => by
      have := rowsAt_small hr
      omega
    have hsl := hrows.sl hback (by rw [rowsAt_len]; omega) hrl (M0 := M) hlow0 hsub
    rw [hfin] at hsl
    exact ⟨hsl.putII hD.heap rfl, put_below hE hD0 hB⟩
open Go Rw Go.RowKit
set_option maxRecDepth 100000
theorem graphNeeds_spec (l : List ByteArray) (ts : List Tm) (M : Nat → Prop) (w : World) (vn vt : Value) (hn : Sl M w vn l) (ht : Sl M w vt ts) (hzt : ∀ t ∈ ts, tmsz t ≤ 1048576) (Lw : Low M w) :
    Calls Tryz.prog 3 #[vn, vt] w (Ret fun r w' => r = .bool true ∧ Ext w w') := by
  have hE := Below.refl w.heap.size w
  have hB := lR w.heap.size
  have hL := hn.lt
  have hlt := ht.lt
  have hz : ∀ t ∈ ts, AnnS t ∧ nsz t ≤ 2000000 := fun t h => ⟨annS_tmsz (Nat.le_trans (hzt t h) (by decide)), Nat.le_trans (nsz_tmsz t) (Nat.le_trans (hzt t h) (by decide))⟩
  refine cN (n := 59) Tryz.func3 rfl rfl rfl ?_
  have hRl : ((List.range l.length).map (needsR l ts)).length = l.length := by rw [List.length_map, List.length_range]
  refine q0 (lP 1 tK rfl (q1 (cS (q0 ?_))))
  refine lC (oK fo4 rfl rfl rfl (alive_spec M _ Lw) ?_)
  rintro _ w1 ⟨rfl, ew1⟩
  replace hE := ew1.bl hE hB
  replace hn := hn.Y ew1
  replace ht := ht.Y ew1
  replace Lw := Lw.Y ew1
  replace hB := ew1.z hB
  refine lP 1 tK rfl (q1 ?_)
  refine c_ifB _ rfl (fun c1 => ?_) (fun c1 => ?_)
  · first | (exfalso; omega) | exact absurd c1 (by simp)
  refine cK (xS (cS (q0 (lP 1 tK rfl ?_))))
  refine lC (o_len tK hn rfl rfl rfl rfl rfl ?_)
  refine lP 2 tK rfl ?_
  refine lS 14 _ rfl (fun c2 => ?_) (fun c2 => ?_)
  · refine lP 4 tK rfl (q1 (cI rfl (q0 (lP 1 tK rfl (q1 (cR (xR (x1_ rfl rfl ?_))))))))
    exact ⟨rfl, hE⟩
  refine lP 1 tK rfl ?_
  refine lC (o_len tK ht rfl rfl rfl rfl rfl ?_)
  refine lP 2 tK rfl (q1 ?_)
  refine cP _ rfl (fun c3 => ?_) (fun c3 => ?_)
  · refine q0 (lP 1 tK rfl (q1 (cR (xR (x1_ rfl rfl ?_)))))
    exact ⟨rfl, hE⟩
  refine cK (xS (cS (q0 (lP 1 tK rfl (q1 (cB ?_))))))
  refine c_loop (X := Nat) (fun i => [(0, vn), (1, vt), (5, .int .i64 (i : Nat))]) (fun i w' => i ≤ ts.length ∧ Sl M w' vn l ∧ Sl M w' vt ts ∧ Low M w' ∧ Below w.heap.size w w' ∧ w.heap.size ≤ w'.heap.size) (fun i => ts.length - i) (0) (s3 rfl rfl rfl) ?_ ?_
  · exact ⟨Nat.zero_le _, hn, ht, Lw, hE, hB⟩
  clear hn ht Lw hE hB
  rintro i w2 ⟨hi, hn, ht, Lw, hE, hB⟩
  refine cS (q0 (lP 2 tK rfl ?_))
  refine lC (o_len tK ht rfl rfl rfl rfl rfl ?_)
  refine lP 1 tK rfl (q1 ?_)
  refine cP _ rfl (fun c4 => ?_) (fun c4 => ?_)
  · refine cK (xS (cS (cB (q0 (lP 2 tK rfl ?_)))))
    have hit : i < ts.length := by omega
    obtain ⟨hza, hzn⟩ := hz _ (gM hit)
    refine lC (o_ixS tK ht (gE hit) rfl rfl rfl rfl rfl rfl rfl rfl rfl ?_)
    intro ebx eox eux hyx hX
    obtain ⟨akvx, kvx, rfl, opx, nmx, agx, n64x, hax, hkx⟩ := tm_open hyx
    replace hX : At M w2 ebx eox [.int .u8 ts[i].op, .string ts[i].name, .string ts[i].arg, .int .i64 ts[i].n, .bool ts[i].has, .int .u8 ts[i].ann.op, .string ts[i].ann.name, .int .i64 ts[i].ann.n, akvx, kvx] := hX
    refine lC (oL tK (fun j v hv => hX.cell j v hv) rfl rfl rfl rfl rfl rfl ?_)
    refine lC (oK fo5 rfl rfl rfl (nodes_spec ts[i] M _ _ hyx Lw hzn) ?_)
    rintro vhl w3 ⟨hl, ew3⟩
    replace hE := ew3.bl hE hB
    replace hn := hn.Y ew3
    replace ht := ht.Y ew3
    replace hyx := Rep.Y hyx ew3
    replace hax := Rep.Y hax ew3
    replace hkx := hkx.Y ew3
    replace hX := hX.Y ew3
    replace Lw := Lw.Y ew3
    replace hB := ew3.z hB
    have hll := hl.lt
    refine lC (o_len tK hl rfl rfl rfl rfl rfl ?_)
    refine lP 1 tK rfl (q1 ?_)
    refine cP _ rfl (fun c5 => ?_) (fun c5 => ?_)
    · refine q0 (lP 1 tK rfl (q1 (cR (xB (xR (xR (xB (xR (x1_ rfl rfl ?_)))))))))
      exact ⟨rfl, hE⟩
    refine cK (x_blk (xS (cG (lP 1 tK rfl ?_))))
    refine lC (o_ai rfl rfl rfl (by omega) rfl rfl ?_)
    refine lP 1 tK rfl (lN ?_)
    exact x_round (i + 1) (s3 rfl rfl (gN rfl (by omega))) ⟨by omega, hn, ht, Lw, hE, hB⟩ (by omega)
  refine c_exit (xE (xE (x_blkE (xS (q0 (lP 2 tK rfl ?_))))))
  refine lC (oK fo6 rfl rfl rfl (needs_spec l ts 0 M _ _ _ hn ht Lw (by omega) hz) ?_)
  rintro vha w4 ⟨ha, ew4⟩
  replace hE := ew4.bl hE hB
  replace hn := hn.Y ew4
  replace ht := ht.Y ew4
  replace Lw := Lw.Y ew4
  replace hB := ew4.z hB
  refine lP 2 tK rfl ?_
  refine lC (oK fo7 rfl rfl rfl (refNeeds_spec l ts M _ _ _ hn ht Lw (by omega) hz) ?_)
  rintro vhb w5 ⟨hb, ew5⟩
  replace hE := ew5.bl hE hB
  replace hn := hn.Y ew5
  replace ht := ht.Y ew5
  replace ha := ha.Y ew5
  replace Lw := Lw.Y ew5
  replace hB := ew5.z hB
  refine lP 2 tK rfl (q1 (cS (q0 (lP 1 tK rfl ?_))))
  refine lC (o_len tK ha rfl rfl rfl rfl rfl ?_)
  refine lP 1 tK rfl ?_
  refine lC (o_len tK hb rfl rfl rfl rfl rfl ?_)
  refine lP 1 tK rfl (q1 ?_)
  refine c_ifN _ rfl (fun c6 => ?_) (fun c6 => ?_)
  · first | (exfalso; omega) | exact absurd c6 (by simp)
  refine cK (xS (cS (q0 (lP 1 tK rfl (q1 (cB ?_))))))
  refine c_loop (X := Nat) (fun k => [(6, vha), (7, vhb), (8, .int .i64 (k : Nat))]) (fun k w' => k ≤ l.length ∧ Sl M w' vha ((List.range l.length).map (needsR l ts)) ∧ Sl M w' vhb ((List.range l.length).map (needsR l ts)) ∧ Low M w' ∧ Below w.heap.size w w' ∧ w.heap.size ≤ w'.heap.size) (fun k => l.length - k) (0) (s3 rfl rfl rfl) ?_ ?_
  · exact ⟨Nat.zero_le _, ha, hb, Lw, hE, hB⟩
  clear ha hb hn ht Lw hE hB
  rintro k w6 ⟨hkl, ha, hb, Lw, hE, hB⟩
  refine cS (q0 (lP 2 tK rfl ?_))
  refine lC (o_len tK ha rfl rfl rfl rfl rfl ?_)
  refine lP 1 tK rfl (q1 ?_)
  refine cP _ rfl (fun c7 => ?_) (fun c7 => ?_)
  · refine cK (xS (cS (cB (cS ?_))))
    refine a_beg Ext rfl ?_
    intro w7 ew7
    replace hE := ew7.bl hE hB
    replace ha := ha.Y ew7
    replace hb := hb.Y ew7
    replace Lw := Lw.Y ew7
    replace hB := ew7.z hB
    have hS : Ext w7 w7 := ext_refl _
    have D_ha := ha
    have D_hb := hb
    refine a_p 0 tK rfl rfl rfl rfl (by kernel_rfl) i3 hS ?_
    refine a_p 1 tK rfl rfl rfl rfl (by kernel_rfl) i3 hS ?_
    have hkk : k < l.length := by omega
    have hrk : ((List.range l.length).map (needsR l ts))[k]? = some (needsR l ts k) := by rw [List.getElem?_map, List.getElem?_range hkk]; rfl
    refine a_ixS 2 tK D_ha hrk rfl rfl rfl rfl rfl rfl rfl rfl rfl rfl (by kernel_rfl) i4 hS ?_
    intro eba eoa eua hra hata
    replace hra : Sl M w7 eua (needsR l ts k) := hra
    replace hata : At M w7 eba eoa [eua] := by rw [Sl.cells hra] at hata; exact hata
    refine a_ld 3 tK (fun _ hs => (hata.Y hs).cell 0 _ rfl) rfl rfl rfl rfl rfl rfl (by kernel_rfl) i3 hS ?_
    refine a_p 4 tK rfl rfl rfl rfl (by kernel_rfl) i3 hS ?_
    refine a_p 5 tK rfl rfl rfl rfl (by kernel_rfl) i3 hS ?_
    refine a_ixS 6 tK D_hb hrk rfl rfl rfl rfl rfl rfl rfl rfl rfl rfl (by kernel_rfl) i4 hS ?_
    intro ebb eob eub hrb hatb
    replace hrb : Sl M w7 eub (needsR l ts k) := hrb
    replace hatb : At M w7 ebb eob [eub] := by rw [Sl.cells hrb] at hatb; exact hatb
    refine a_ld 7 tK (fun _ hs => (hatb.Y hs).cell 0 _ rfl) rfl rfl rfl rfl rfl rfl (by kernel_rfl) i3 hS ?_
    refine a_bar 8 rfl (by kernel_rfl) (by kernel_rfl) (oK fo8 rfl rfl rfl (sameInts_spec M _ _ _ _ _ hra hrb) ?_)
    rintro _ w8 ⟨rfl, ew8⟩
    replace hS := hS.then ew8
    replace hE := ew8.bl hE hB
    replace ha := ha.Y ew8
    replace hb := hb.Y ew8
    replace hata := hata.Y ew8
    replace hra := hra.Y ew8
    replace hatb := hatb.Y ew8
    replace hrb := hrb.Y ew8
    replace Lw := Lw.Y ew8
    replace hB := ew8.z hB
    refine a_p 9 tK rfl rfl rfl rfl (by kernel_rfl) i3 hS ?_
    refine a_end (by kernel_rfl) ?_
    refine xS ?_
    refine c_ifN _ rfl (fun c8 => ?_) (fun c8 => ?_)
    · first | (exfalso; omega) | exact absurd c8 (by simp)
    refine cK (x_blk (xS (cG (lP 1 tK rfl ?_))))
    refine lC (o_ai rfl rfl rfl (by omega) rfl rfl ?_)
    refine lP 1 tK rfl (lN ?_)
    exact x_round (k + 1) (s3 rfl rfl (gN rfl (by omega))) ⟨by omega, ha, hb, Lw, hE, hB⟩ (by omega)
  refine c_exit (xE (xE (x_blkE (xS (q0 (lP 1 tK rfl (q1 (cR (x1_ rfl rfl ?_)))))))))
  exact ⟨rfl, hE⟩
end Go.Proofs.YtpoahmeacjggfaaGreat
