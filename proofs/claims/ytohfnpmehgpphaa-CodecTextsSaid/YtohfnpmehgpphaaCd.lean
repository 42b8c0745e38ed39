/- Walks: the law CodecTexts. Printed by wip/walks/codec4.py. -/
import Derived.Test.YtohfnpmehgpphaaCc
namespace Go.Proofs.Ytohfnpmehgpphaa
open Go Rw Go.RowKit
set_option maxRecDepth 100000

def tyZ : Ty := .mk 0 ⟨#[]⟩ 0 []
def tmF : Tm := .mk 32 ⟨#[102]⟩ ⟨#[]⟩ 0 false tyZ []
def tmN : Tm := .mk 33 ⟨#[]⟩ ⟨#[]⟩ 1 false tyZ []
def tmA : Tm := .mk 37 ⟨#[]⟩ ⟨#[]⟩ 0 false tyZ [tmF, tmN]
theorem tmF_right : rightT tmF false = true := by rw [rightT_eq]; rfl
theorem tmN_right : rightT tmN false = true := by rw [rightT_eq]; rfl
theorem tmA_right : rightT tmA false = true := by
  have hF := tmF_right
  have hN := tmN_right
  rw [rightT_eq, show kidL tmA.kids = [(32, rightT tmF), (33, rightT tmN)] from rfl]
  simp only [kidsT]
  rw [show innerB tmA.op 0 = false from rfl, show innerB tmA.op (0 + 1) = false from rfl, hF, hN]
  rfl
theorem tmF_bytes : termB tmF = [32, 1, 102] := by rw [termB_eq]; rfl
theorem tmN_bytes : termB tmN = [33, 1] := by rw [termB_eq]; rfl
theorem tmA_bytes : termB tmA = [37, 32, 1, 102, 33, 1] := by
  have hF := tmF_bytes
  have hN := tmN_bytes
  rw [termB_eq, show tmA.kids = [tmF, tmN] from rfl, List.flatMap_cons, List.flatMap_cons, List.flatMap_nil, hF, hN]
  rfl
theorem tyZ_psz : psz tyZ = 1 := by rw [psz_eq]; rfl
theorem tmA_ann : AnnS tmA := by
  have hF : nodesL tmF = [tmF] := by rw [nodesL_eq]; rfl
  have hN : nodesL tmN = [tmN] := by rw [nodesL_eq]; rfl
  intro x hx
  rw [nodesL_eq, show tmA.kids = [tmF, tmN] from rfl, List.flatMap_cons, List.flatMap_cons, List.flatMap_nil, hF, hN] at hx
  have hz := tyZ_psz
  simp at hx
  rcases hx with rfl | rfl | rfl
  · show psz tyZ ≤ _; omega
  · show psz tyZ ≤ _; omega
  · show psz tyZ ≤ _; omega
theorem tkT_text {s : ByteArray} (hs : s.size < 140737488355328) : tkT (textB s) = some (s, (textB s).length) := by
  have h1 := textE_text hs []
  rw [List.append_nil, textE_tk] at h1
  cases h : tkT (textB s) with
  | none => rw [h] at h1; simp at h1
  | some z =>
    obtain ⟨x, k⟩ := z
    rw [h] at h1
    simp at h1
    have := tkT_le h
    rw [h1.1, show k = (textB s).length by omega]

/-- alive: true. -/
theorem alive27_spec (M : Nat → Prop) (w : World) (hlow : Low M w) :
    Calls Try.prog 27 #[] w (Ret fun r w' => r = .bool true ∧ Ext w w') := by
  have hE : Below w.heap.size w w := Below.refl _ _
  have hB : w.heap.size ≤ w.heap.size := Nat.le_refl _
  refine c_enter (n := 19) Try.func27 rfl rfl rfl ?_
  refine q0 (l_p 1 tbOk rfl (q1 (q0 ?_)))
  refine l_cons (o_build (cells := [.int .u8 32, .string ⟨#[102]⟩, .string ⟨#[]⟩, .int .i64 0, .bool false, .int .u8 0, .string ⟨#[]⟩, .int .i64 0, .slice none 0 0, .slice none 0 0]) (css := [[.int .u8 32], [.string ⟨#[102]⟩]]) bd84 rfl rfl rfl rfl rfl ?_)
  have hn0 : Rep.R M w (.agg #[.int .u8 32, .string ⟨#[102]⟩, .string ⟨#[]⟩, .int .i64 0, .bool false, .int .u8 0, .string ⟨#[]⟩, .int .i64 0, .slice none 0 0, .slice none 0 0]) tmF := tm_mk (ann := tyZ) (by decide) (by decide) (by decide) ⟨by decide, by decide⟩ (ty_mk (by decide) (by decide) ⟨by decide, by decide⟩ sl_nil) sl_nil
  refine l_cons (o_build (cells := [.int .u8 33, .string ⟨#[]⟩, .string ⟨#[]⟩, .int .i64 1, .bool false, .int .u8 0, .string ⟨#[]⟩, .int .i64 0, .slice none 0 0, .slice none 0 0]) (css := [[.int .u8 33], [.int .i64 1]]) bd84 rfl rfl rfl rfl rfl ?_)
  have hn1 : Rep.R M w (.agg #[.int .u8 33, .string ⟨#[]⟩, .string ⟨#[]⟩, .int .i64 1, .bool false, .int .u8 0, .string ⟨#[]⟩, .int .i64 0, .slice none 0 0, .slice none 0 0]) tmN := tm_mk (ann := tyZ) (by decide) (by decide) (by decide) ⟨by decide, by decide⟩ (ty_mk (by decide) (by decide) ⟨by decide, by decide⟩ sl_nil) sl_nil
  refine l_cons (o_bs tbOk rfl rfl rfl rfl rfl rfl rfl (by intro v hv; simp at hv; rcases hv with rfl | rfl <;> rfl) rfl rfl rfl ?_)
  intro bl0 w1 qbl0 ew1 hbl0
  have nbl0 := nM_of hlow qbl0
  replace hE := hE.trans (Below.mono ew1 hB)
  replace hn0 := Rep.ext hn0 ew1
  replace hn1 := Rep.ext hn1 ew1
  replace hlow := hlow.ext ew1
  replace hB := Nat.le_trans hB ew1.size
  have hsl0 : Sl M w1 (.slice (some ⟨bl0, 0, none⟩) 2 2) [tmF, tmN] := lit_sl hbl0 nbl0 (show Rs _ _ [_, _] [tmF, tmN] from ⟨hn0, hn1, trivial⟩) (by decide)
  refine l_cons (o_build (cells := [.int .u8 37, .string ⟨#[]⟩, .string ⟨#[]⟩, .int .i64 0, .bool false, .int .u8 0, .string ⟨#[]⟩, .int .i64 0, .slice none 0 0, .slice (some ⟨bl0, 0, none⟩) 2 2]) (css := [[.int .u8 37], [.slice (some ⟨bl0, 0, none⟩) 2 2]]) bd84 rfl rfl rfl rfl rfl ?_)
  have hn2 : Rep.R M w1 (.agg #[.int .u8 37, .string ⟨#[]⟩, .string ⟨#[]⟩, .int .i64 0, .bool false, .int .u8 0, .string ⟨#[]⟩, .int .i64 0, .slice none 0 0, .slice (some ⟨bl0, 0, none⟩) 2 2]) tmA := tm_mk (ann := tyZ) (by decide) (by decide) (by decide) ⟨by decide, by decide⟩ (ty_mk (by decide) (by decide) ⟨by decide, by decide⟩ sl_nil) hsl0
  have hpt := putTerm_spec tmA _ _ _ hn2 hlow tmA_ann (by rw [tmA_bytes]; decide)
  rw [tmA_right, tmA_bytes] at hpt
  refine l_cons (o_call fo41 rfl rfl rfl (hpt) ?_)
  rintro _ w2 ⟨⟨x, rfl, hx⟩, ew2⟩
  replace hx : Sl M w2 x ([37, 32, 1, 102, 33, 1] : List UInt8) := hx
  replace hE := hE.trans (Below.mono ew2 hB)
  replace hn0 := Rep.ext hn0 ew2
  replace hn1 := Rep.ext hn1 ew2
  replace hsl0 := hsl0.ext ew2
  replace hn2 := Rep.ext hn2 ew2
  replace hlow := hlow.ext ew2
  replace hB := Nat.le_trans hB ew2.size
  refine l_p 5 tbOk rfl (q1 (q0 (l_p 1 tbOk rfl ?_)))
  refine l_cons (o_conv (y := 0) tbOk rfl rfl rfl rfl rfl rfl rfl rfl ?_)
  refine l_p 3 tbOk rfl ?_
  refine l_cons (o_bs tbOk rfl rfl rfl rfl rfl rfl rfl (by intro v hv; simp at hv; rcases hv with rfl | rfl | rfl | rfl | rfl | rfl <;> rfl) rfl rfl rfl ?_)
  intro bl1 w3 qbl1 ew3 hbl1
  have nbl1 := nM_of hlow qbl1
  replace hE := hE.trans (Below.mono ew3 hB)
  replace hn0 := Rep.ext hn0 ew3
  replace hn1 := Rep.ext hn1 ew3
  replace hsl0 := hsl0.ext ew3
  replace hn2 := Rep.ext hn2 ew3
  replace hx := hx.ext ew3
  replace hlow := hlow.ext ew3
  replace hB := Nat.le_trans hB ew3.size
  have hsl1 : Sl M w3 (.slice (some ⟨bl1, 0, none⟩) 6 6) ([37, 32, 1, 102, 33, 1] : List UInt8) := lit_sl hbl1 nbl1 (show Rs _ _ [_, _, _, _, _, _] ([37, 32, 1, 102, 33, 1] : List UInt8) from ⟨rfl, rfl, rfl, rfl, rfl, rfl, trivial⟩) (by decide)
  refine l_cons (o_call fo29 rfl rfl rfl (sameB_spec _ _ M _ _ _ hx hsl1) ?_)
  rintro _ w4 ⟨rfl, ew4⟩
  replace hE := hE.trans (Below.mono ew4 hB)
  replace hn0 := Rep.ext hn0 ew4
  replace hn1 := Rep.ext hn1 ew4
  replace hsl0 := hsl0.ext ew4
  replace hn2 := Rep.ext hn2 ew4
  replace hx := hx.ext ew4
  replace hsl1 := hsl1.ext ew4
  replace hlow := hlow.ext ew4
  replace hB := Nat.le_trans hB ew4.size
  refine l_p 2 tbOk rfl (q1 (c_ret (x_ret1 rfl rfl ?_)))
  exact ⟨rfl, hE⟩

/-- CodecTexts: true. -/
theorem codecTexts_spec (l : List UInt8) (s : ByteArray) (p : Int) (M : Nat → Prop) (w : World) (v : Value) (hs : Sl M w v l) (hss : s.size < 140737488355328) (hlow : Low M w) :
    Calls Try.prog 7 #[v, .string s, .int .i64 p] w (Ret fun r w' => r = .bool true ∧ Ext w w') := by
  have hlow0 := hlow
  have hlow := hlow
  have hB : w.heap.size ≤ w.heap.size := Nat.le_refl _
  have hE : Below w.heap.size w w := Below.refl _ _
  have hsub : ∀ b, M b → M b := fun _ h => h
  have hlt := hs.lt
  refine c_enter (n := 118) Try.func7 rfl rfl rfl ?_
  refine q0 (l_p 1 tbOk rfl (q1 (c_seq (q0 ?_))))
  refine l_cons (o_call fo27 rfl rfl rfl (alive27_spec _ _ hlow) ?_)
  rintro _ w1 ⟨rfl, ew1⟩
  replace hE := hE.trans (Below.mono ew1 hB)
  replace hs := hs.ext ew1
  replace hlow := hlow.ext ew1
  replace hB := Nat.le_trans hB ew1.size
  refine l_p 1 tbOk rfl (q1 ?_)
  refine c_ifB _ rfl (fun c1 => ?_) (fun c1 => ?_)
  · exact absurd c1 (by simp)
  refine c_skip (x_seq (c_seq (q0 (l_p 1 tbOk rfl ?_))))
  refine l_cons (o_len tbOk hs rfl rfl rfl rfl rfl ?_)
  refine l_p 2 tbOk rfl ?_
  refine l_splitP 21 _ rfl (fun c2 => ?_) (fun c2 => ?_)
  · refine l_p 4 tbOk rfl (q1 (c_ifT rfl (q0 (l_p 1 tbOk rfl (q1 (c_ret (x_seqR (x_ret1 rfl rfl ?_))))))))
    exact ⟨by simp_all, hE⟩
  refine l_p 4 tbOk rfl (q1 ?_)
  refine c_ifP _ rfl (fun c3 => ?_) (fun c3 => ?_)
  · refine q0 (l_p 1 tbOk rfl (q1 (c_ret (x_seqR (x_ret1 rfl rfl ?_)))))
    exact ⟨by simp_all, hE⟩
  refine c_skip (x_seq (q0 (l_p 2 tbOk rfl ?_)))
  have htl := textB_len s
  refine l_cons (o_call fo28 rfl rfl rfl (putText_spec l s _ _ _ hs hlow hss (by omega)) ?_)
  rintro vhc w2 ⟨hc, ew2⟩
  replace hE := hE.trans (Below.mono ew2 hB)
  replace hs := hs.ext ew2
  replace hlow := hlow.ext ew2
  replace hB := Nat.le_trans hB ew2.size
  refine l_p 1 tbOk rfl (q1 (c_seq (q0 (l_p 1 tbOk rfl ?_))))
  refine l_cons (o_bs tbOk rfl rfl rfl rfl rfl rfl rfl (fun v h => by cases h) rfl rfl rfl ?_)
  intro bw3 w3 qbw3 ew3 hbw3
  have sw3 := Stp.add ew3 hlow hB (Nat.le_of_eq qbw3.symm) hbw3.lt
  have le_bw3 := hB
  replace hE := hE.trans sw3.below
  replace hs := hs.stp sw3
  replace hc := hc.stp sw3
  replace hsub := fun b h => sw3.sub b (hsub b h)
  replace hlow := sw3.low
  replace hB := Nat.le_trans hB sw3.upd.1
  have ho := own_litS sw3 hbw3 (show Rs _ _ [] ([] : List UInt8) from trivial) qbw3 le_bw3 (by simp [maxLen])
  refine l_p 1 tbOk rfl ?_
  refine l_cons (o_app tbOk ho hs hlow hB rfl rfl rfl rfl rfl rfl rfl (by simp; omega) (by show (_ + _) * 1 ≤ _; simp; omega) rfl rfl ?_)
  intro vw4 w4 Mw4 hw4 sw4 frw4 blw4
  replace hE := hE.trans sw4.below
  replace hs := hs.stp sw4
  replace hc := hc.stp sw4
  replace hsub := fun b h => sw4.sub b (hsub b h)
  replace hlow := sw4.low
  replace hB := Nat.le_trans hB sw4.upd.1
  replace ho := hw4
  clear hw4
  rw [List.nil_append] at ho
  refine l_p 1 tbOk rfl ?_
  refine l_cons (o_call fo30 rfl rfl rfl (textR_spec s (by omega) _ _ hlow) ?_)
  rintro vhx w5 ⟨hx, ew5⟩
  replace ho := ho.ext hlow hB ew5
  replace hE := hE.trans (Below.mono ew5 hB)
  replace hs := hs.ext ew5
  replace hc := hc.ext ew5
  replace hlow := hlow.ext ew5
  replace hB := Nat.le_trans hB ew5.size
  refine l_cons (o_app tbOk ho hx hlow hB rfl rfl rfl rfl rfl rfl rfl (by omega) (by show (_ + _) * 1 ≤ _; omega) rfl rfl ?_)
  intro vw6 w6 Mw6 hw6 sw6 frw6 blw6
  replace hE := hE.trans sw6.below
  replace hs := hs.stp sw6
  replace hc := hc.stp sw6
  replace hx := hx.stp sw6
  replace hsub := fun b h => sw6.sub b (hsub b h)
  replace hlow := sw6.low
  replace hB := Nat.le_trans hB sw6.upd.1
  replace ho := hw6
  clear hw6
  have hfz := ho.froze (by rw [List.length_append]; omega)
  replace hlow : Low (Less Mw6 vw6) w6 := fun b h => hlow b h.1
  replace hsub : ∀ b, _ → Less Mw6 vw6 b := fun b h => ⟨hsub b h, fun e => by have := (ho.lt b e).1; have := hlow0 b h; omega⟩
  replace hs := hs.wk (fun b _ h => less_sub (v := vw6) b h)
  replace hc := hc.wk (fun b _ h => less_sub (v := vw6) b h)
  replace hx := hx.wk (fun b _ h => less_sub (v := vw6) b h)
  refine l_cons (o_call fo29 rfl rfl rfl (sameB_spec _ _ _ _ _ _ hc hfz) ?_)
  rintro _ w7 ⟨rfl, ew7⟩
  replace hE := hE.trans (Below.mono ew7 hB)
  replace hs := hs.ext ew7
  replace hc := hc.ext ew7
  replace hx := hx.ext ew7
  replace hfz := hfz.ext ew7
  replace hlow := hlow.ext ew7
  replace hB := Nat.le_trans hB ew7.size
  refine l_p 1 tbOk rfl (q1 ?_)
  refine c_ifB _ rfl (fun c4 => ?_) (fun c4 => ?_)
  · exact absurd c4 (by simp)
  refine c_skip (x_seq (q0 (l_p 2 tbOk rfl ?_)))
  refine l_cons (o_len tbOk hs rfl rfl rfl rfl rfl ?_)
  have hg := getText_in (l ++ textB s) l.length (by simp) _ _ _ hc hlow
  rw [List.drop_left, tkT_text hss] at hg
  refine l_cons (o_call fo31 rfl rfl rfl (hg) ?_)
  rintro _ w8 ⟨rfl, ew8⟩
  replace hE := hE.trans (Below.mono ew8 hB)
  replace hs := hs.ext ew8
  replace hc := hc.ext ew8
  replace hx := hx.ext ew8
  replace hfz := hfz.ext ew8
  replace hlow := hlow.ext ew8
  replace hB := Nat.le_trans hB ew8.size
  refine l_p 7 tbOk rfl (q1 (c_seq (q0 (l_p 1 tbOk rfl ?_))))
  refine l_cons (o_conv (y := 0) tbOk rfl rfl rfl rfl rfl rfl rfl rfl ?_)
  refine l_p 7 tbOk rfl ?_
  refine l_splitN 54 _ rfl (fun c5 => ?_) (fun c5 => ?_)
  · refine l_p 5 tbOk rfl (q1 (c_ifT rfl (q0 (l_p 1 tbOk rfl (q1 (c_ret (x_seqR (x_ret1 rfl rfl ?_))))))))
    exact ⟨by simp_all, hE⟩
  refine l_p 2 tbOk rfl ?_
  refine l_cons (o_len tbOk hc rfl rfl rfl rfl rfl ?_)
  refine l_p 2 tbOk rfl (q1 ?_)
  refine c_ifN _ rfl (fun c6 => ?_) (fun c6 => ?_)
  · refine q0 (l_p 1 tbOk rfl (q1 (c_ret (x_seqR (x_ret1 rfl rfl ?_)))))
    exact ⟨by simp_all, hE⟩
  refine c_skip (x_seq (q0 (l_p 2 tbOk rfl ?_)))
  by_cases hp : p < 0 ∨ (l.length : Int) < p
  · refine l_cons (o_call fo31 rfl rfl rfl (getText_out l p hp _ _ _ hs) ?_)
    rintro _ _ ⟨rfl, rfl⟩
    refine l_p 7 tbOk rfl (q1 (c_seq (q0 (l_p 3 tbOk rfl ?_))))
    refine l_splitP 69 _ rfl (fun c7 => ?_) (fun c7 => ?_)
    · refine l_p 5 tbOk rfl (q1 (c_ifT rfl (q0 (l_p 1 tbOk rfl ?_))))
      refine l_cons (o_conv (y := 1) tbOk rfl rfl rfl rfl rfl rfl rfl rfl ?_)
      refine l_p 6 tbOk rfl ?_
      refine l_splitP 82 _ rfl (fun c8 => ?_) (fun c8 => ?_)
      · refine l_p 4 tbOk rfl (q1 (c_ret (x_seqR (x_ret1 rfl rfl ?_))))
        exact ⟨by simp_all, hE⟩
      refine l_p 4 tbOk rfl (q1 (c_ret (x_seqR (x_ret1 rfl rfl ?_))))
      exact ⟨by simp_all, hE⟩
    refine l_p 2 tbOk rfl ?_
    refine l_cons (o_len tbOk hs rfl rfl rfl rfl rfl ?_)
    refine l_p 2 tbOk rfl (q1 ?_)
    refine c_ifP _ rfl (fun c9 => ?_) (fun c9 => ?_)
    · refine q0 (l_p 1 tbOk rfl ?_)
      refine l_cons (o_conv (y := 1) tbOk rfl rfl rfl rfl rfl rfl rfl rfl ?_)
      refine l_p 6 tbOk rfl ?_
      refine l_splitP 82 _ rfl (fun c10 => ?_) (fun c10 => ?_)
      · refine l_p 4 tbOk rfl (q1 (c_ret (x_seqR (x_ret1 rfl rfl ?_))))
        exact ⟨by simp_all, hE⟩
      refine l_p 4 tbOk rfl (q1 (c_ret (x_seqR (x_ret1 rfl rfl ?_))))
      exact ⟨by simp_all, hE⟩
    exact absurd hp (by omega)
  obtain ⟨q, rfl⟩ : ∃ q : Nat, p = (q : Int) := ⟨p.toNat, by omega⟩
  have hq : q ≤ l.length := by omega
  have hg2 := getText_in l q hq _ _ _ hs hlow
  have hk2 : ∀ w v, Sl (Less Mw6 vw6) w v l → _ := fun w v h => takeText_spec l q hq _ w v h
  cases ht : tkT (l.drop q) with
  | none =>
    rw [ht] at hg2 hk2
    refine l_cons (o_call fo31 rfl rfl rfl (hg2) ?_)
    rintro _ w9 ⟨rfl, ew9⟩
    replace hE := hE.trans (Below.mono ew9 hB)
    replace hs := hs.ext ew9
    replace hc := hc.ext ew9
    replace hx := hx.ext ew9
    replace hfz := hfz.ext ew9
    replace hlow := hlow.ext ew9
    replace hB := Nat.le_trans hB ew9.size
    refine l_p 7 tbOk rfl (q1 (c_seq (q0 (l_p 3 tbOk rfl ?_))))
    refine l_splitP 69 _ rfl (fun c11 => ?_) (fun c11 => ?_)
    · exact absurd c11 (by omega)
    refine l_p 2 tbOk rfl ?_
    refine l_cons (o_len tbOk hs rfl rfl rfl rfl rfl ?_)
    refine l_p 2 tbOk rfl (q1 ?_)
    refine c_ifP _ rfl (fun c12 => ?_) (fun c12 => ?_)
    · exact absurd c12 (by omega)
    refine c_skip (x_seq (q0 (l_p 2 tbOk rfl ?_)))
    refine l_cons (o_call fo32 rfl rfl rfl (hk2 _ _ hs) ?_)
    rintro _ _ ⟨rfl, rfl⟩
    refine l_p 5 tbOk rfl (q1 (c_seq (q0 (l_p 2 tbOk rfl (q1 (c_ifT rfl (q0 (l_p 1 tbOk rfl ?_))))))))
    refine l_cons (o_conv (y := 15) tbOk rfl rfl rfl rfl rfl rfl rfl rfl ?_)
    refine l_p 6 tbOk rfl ?_
    refine l_splitP 101 _ rfl (fun c13 => ?_) (fun c13 => ?_)
    · refine l_p 4 tbOk rfl (q1 (c_ret (x_seqR (x_ret1 rfl rfl ?_))))
      exact ⟨by simp_all, hE⟩
    refine l_p 4 tbOk rfl (q1 (c_ret (x_seqR (x_ret1 rfl rfl ?_))))
    exact ⟨by simp_all, hE⟩
  | some z =>
    obtain ⟨y, j⟩ := z
    rw [ht] at hg2 hk2
    refine l_cons (o_call fo31 rfl rfl rfl (hg2) ?_)
    rintro _ w10 ⟨rfl, ew10⟩
    replace hE := hE.trans (Below.mono ew10 hB)
    replace hs := hs.ext ew10
    replace hc := hc.ext ew10
    replace hx := hx.ext ew10
    replace hfz := hfz.ext ew10
    replace hlow := hlow.ext ew10
    replace hB := Nat.le_trans hB ew10.size
    refine l_p 7 tbOk rfl (q1 (c_seq (q0 (l_p 3 tbOk rfl ?_))))
    refine l_splitP 69 _ rfl (fun c14 => ?_) (fun c14 => ?_)
    · exact absurd c14 (by omega)
    refine l_p 2 tbOk rfl ?_
    refine l_cons (o_len tbOk hs rfl rfl rfl rfl rfl ?_)
    refine l_p 2 tbOk rfl (q1 ?_)
    refine c_ifP _ rfl (fun c15 => ?_) (fun c15 => ?_)
    · exact absurd c15 (by omega)
    refine c_skip (x_seq (q0 (l_p 2 tbOk rfl ?_)))
    refine l_cons (o_call fo32 rfl rfl rfl (hk2 _ _ hs) ?_)
    rintro _ _ ⟨rfl, rfl⟩
    refine l_p 5 tbOk rfl (q1 (c_seq (q0 (l_p 2 tbOk rfl (q1 ?_)))))
    refine c_ifP _ rfl (fun c16 => ?_) (fun c16 => ?_)
    · exact absurd c16 (by omega)
    refine c_skip (x_seq (q0 (l_p 1 tbOk rfl ?_)))
    refine l_cons (o_conv (y := 0) tbOk rfl rfl rfl rfl rfl rfl rfl rfl ?_)
    refine l_p 7 tbOk rfl ?_
    refine l_splitP 113 _ rfl (fun c17 => ?_) (fun c17 => ?_)
    · refine l_p 5 tbOk rfl (q1 (c_ret (x_ret1 rfl rfl ?_)))
      exact ⟨by simp_all, hE⟩
    refine l_p 5 tbOk rfl (q1 (c_ret (x_ret1 rfl rfl ?_)))
    exact ⟨by simp_all, hE⟩

end Go.Proofs.Ytohfnpmehgpphaa
