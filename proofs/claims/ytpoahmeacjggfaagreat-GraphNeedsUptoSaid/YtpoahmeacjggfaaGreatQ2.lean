/- Part 2 of the proof: rules, plain laws and walks, merged out of smaller texts. -/
import Derived.Test.YtpoahmeacjggfaaGreatQ1
namespace Rw
open Go Go.RowKit
theorem gN {G : Env} {j : Nat} {k : IntKind} {x y : Int} (h : Env.get G j = some (.int k x)) (e : x = y) : Env.get G j = some (.int k y) := by rw [h, e]
theorem get_bool {G : Env} {j : Nat} {x y : Bool} (h : Env.get G j = some (.bool x)) (e : x = y) : Env.get G j = some (.bool y) := by rw [h, e]
/-- A variable of the call's own (its block from B on, and in M). -/
structure MB (B : Nat) (M : Nat → Prop) (w : World) (b T : Nat) (cs : List Value) : Prop where
  box : Box w b T cs
  inM : M b
  ge : B ≤ b
/-- A map that the call writes. -/
structure OM {κ ν : Type} [Key κ] (va : ν → Value) (B : Nat) (M : Nat → Prop) (w : World) (b : Nat) (l : List (κ × ν)) : Prop where
  map : MapL va w b l
  inM : M b
  ge : B ≤ b
section
variable {B : Nat} {M M' : Nat → Prop} {w w' : World} {b T : Nat} {cs : List Value}
theorem MB.lt (h : MB B M w b T cs) : b < w.heap.size := h.box.lt
theorem MB.cell (h : MB B M w b T cs) (j : Nat) (v : Value) (hv : cs[j]? = some v) : w.cell? ⟨b, 0 + j, none⟩ = some v := h.box.cell j v hv
theorem MB.sp (h : MB B M w b T cs) (s : Stp B M M' w w') (hb : w'.heap[b]? = w.heap[b]?) : MB B M' w' b T cs := ⟨⟨hb.trans h.box.heap⟩, s.sub b h.inM, h.ge⟩
theorem MB.Y (h : MB B M w b T cs) (_hl : Low M w) (_hB : B ≤ w.heap.size) (e : Ext w w') : MB B M w' b T cs := ⟨h.box.Y e, h.inM, h.ge⟩
theorem MB.mk' (h : Box w b T cs) {w0 : World} (q : b = w0.heap.size) (hB : B ≤ w0.heap.size) : MB B (Add M b) w b T cs := ⟨h, .inr rfl, by omega⟩
variable {κ ν : Type} [Key κ] {va : ν → Value} {l : List (κ × ν)}
theorem OM.lt (h : OM va B M w b l) : b < w.heap.size := h.map.lt
theorem OM.sp (h : OM va B M w b l) (s : Stp B M M' w w') (hb : w'.heap[b]? = w.heap[b]?) : OM va B M' w' b l := ⟨h.map.keep hb, s.sub b h.inM, h.ge⟩
theorem OM.Y (h : OM va B M w b l) (_hl : Low M w) (_hB : B ≤ w.heap.size) (e : Ext w w') : OM va B M w' b l := ⟨h.map.Y e, h.inM, h.ge⟩
theorem OM.mk' (h : MapL va w b l) {w0 : World} (q : b = w0.heap.size) (hB : B ≤ w0.heap.size) : OM va B (Add M b) w b l := ⟨h, .inr rfl, by omega⟩
end
/-- From world to world: one block may be written; what is new is new. -/
structure UpdB (b : Nat) (w w' : World) : Prop where
  upd : Upd (fun z => z = b) w w'
  below : ∀ B, B ≤ b → Below B w w'
section
variable {b : Nat} {w w' w'' : World}
theorem UpdB.Y (h : Ext w w') (hb : b < w.heap.size) : UpdB b w w' := ⟨⟨h.size, fun x hx _ => h.block x hx⟩, fun B hB => Below.mono h (by omega)⟩
theorem UpdB.refl (b : Nat) (w : World) : UpdB b w w := ⟨⟨lR _, fun _ _ _ => rfl⟩, fun _ _ => Below.refl _ _⟩
theorem UpdB.trans (h : UpdB b w w') (k : UpdB b w' w'') : UpdB b w w'' :=
  ⟨⟨Nat.le_trans h.upd.1 k.upd.1, fun x hx hn => (k.upd.2 x (lT hx h.upd.1) hn).trans (h.upd.2 x hx hn)⟩, fun B hB => (h.below B hB).trans (k.below B hB)⟩
theorem UpdB.sp {B : Nat} {M : Nat → Prop} (h : UpdB b w w') (hM : M b) (hl : Low M w) (hB : B ≤ b) : Stp B M M w w' := Upd.sp h.upd hM hl h.below hB
end
section
variable {P : Program} {T : Tab} {n : Nat} {G : Env} {w : World}
theorem x_ret1s {fn : Func} {R : Value → World → Prop} {a t b o : Nat} {cs : List Value} {ti : TI} (hT : TabOk P T) (hc : ∀ j v, cs[j]? = some v → w.cell? ⟨b, o + j, none⟩ = some v) (hr : fn.results = #[.cell a t]) (hx : Env.get G a = some (.pointer (some ⟨b, o, none⟩)))
    (ht : T.get t = some ti) (hta : ti.d.agg = true) (hl : cs.length = ti.size) (h : R (.agg cs.toArray) w) : WX n (bodyPost P fn (Ret R)) G w .ret := by
  intro ac ha
  have hlc : (loadCells ⟨b, o, none⟩ ti.size).run P w = .ok cs.toArray w := by
    rw [← hl]
    exact run_loadCells_list (P := P) w ⟨b, o, none⟩ cs (fun j v hv => by rw [addr_add]; exact hc j v hv)
  exact ⟨ha.defers, .agg cs.toArray, by simp [results, hr, Array.getD_eq_getD_getElem?, ha.val a _ hx, asAddr, loadVar, run_isAgg hT ht, hta, run_sizeOf hT ht, hlc], h⟩
theorem x_ret2ts {fn : Func} {R : Value → World → Prop} {u a t b o : Nat} {x : Value} {cs : List Value} {ti : TI} (hT : TabOk P T) (hc : ∀ j v, cs[j]? = some v → w.cell? ⟨b, o + j, none⟩ = some v) (hr : fn.results = #[.tmp u, .cell a t]) (hu : Env.get G u = some x)
    (hx : Env.get G a = some (.pointer (some ⟨b, o, none⟩)))
    (ht : T.get t = some ti) (hta : ti.d.agg = true) (hl : cs.length = ti.size) (h : R (.tuple #[x, .agg cs.toArray]) w) : WX n (bodyPost P fn (Ret R)) G w .ret := by
  intro ac ha
  have hlc : (loadCells ⟨b, o, none⟩ ti.size).run P w = .ok cs.toArray w := by
    rw [← hl]
    exact run_loadCells_list (P := P) w ⟨b, o, none⟩ cs (fun j v hv => by rw [addr_add]; exact hc j v hv)
  exact ⟨ha.defers, _, by simp [results, hr, Array.getD_eq_getD_getElem?, ha.val u _ hu, ha.val a _ hx, asAddr, loadVar, run_isAgg hT ht, hta, run_sizeOf hT ht, hlc], h⟩
theorem x_ret2st {fn : Func} {R : Value → World → Prop} {u a t b o : Nat} {x : Value} {cs : List Value} {ti : TI} (hT : TabOk P T) (hc : ∀ j v, cs[j]? = some v → w.cell? ⟨b, o + j, none⟩ = some v) (hr : fn.results = #[.cell a t, .tmp u]) (hu : Env.get G u = some x)
    (hx : Env.get G a = some (.pointer (some ⟨b, o, none⟩)))
    (ht : T.get t = some ti) (hta : ti.d.agg = true) (hl : cs.length = ti.size) (h : R (.tuple #[.agg cs.toArray, x]) w) : WX n (bodyPost P fn (Ret R)) G w .ret := by
  intro ac ha
  have hlc : (loadCells ⟨b, o, none⟩ ti.size).run P w = .ok cs.toArray w := by
    rw [← hl]
    exact run_loadCells_list (P := P) w ⟨b, o, none⟩ cs (fun j v hv => by rw [addr_add]; exact hc j v hv)
  exact ⟨ha.defers, _, by simp [results, hr, Array.getD_eq_getD_getElem?, ha.val u _ hu, ha.val a _ hx, asAddr, loadVar, run_isAgg hT ht, hta, run_sizeOf hT ht, hlc], h⟩
end
section
variable {P : Program} {n : Nat} {G : Env} {w : World} {Q : Exit → Act → World → Prop} {c : Code}
theorem Models.dup {a : Act} (ha : Models n a G) {t : Nat} {v : Value} (hv : Env.get G t = some v) : Models n a ((t, v) :: G) :=
  ⟨ha.size, ha.defers, fun k u hu => by
    rw [Env.get_cons] at hu
    by_cases hk : t = k
    · subst hk; simp at hu; subst hu; exact ha.val t _ hv
    · rw [if_neg hk] at hu; exact ha.val k u hu⟩
theorem c_split (t : Nat) (b : Bool) (hc : Env.get G t = some (.bool b)) (ht : b = true → WC P n Q ((t, .bool true) :: G) w c) (hf : b = false → WC P n Q ((t, .bool false) :: G) w c) : WC P n Q G w c := by
  intro a ha
  cases b with
  | true => exact ht rfl a (ha.dup hc)
  | false => exact hf rfl a (ha.dup hc)
theorem c_splitP (t : Nat) (p : Prop) [Decidable p] (hc : Env.get G t = some (.bool (decide p))) (ht : p → WC P n Q ((t, .bool true) :: G) w c) (hf : ¬ p → WC P n Q ((t, .bool false) :: G) w c) : WC P n Q G w c :=
  c_split t _ hc (fun h => ht (of_decide_eq_true h)) (fun h => hf (of_decide_eq_false h))
end
open Go Go.RowKit
/-- A tree: an op, a name, a number, kids. -/
inductive Ty where
  | mk (op : Int) (name : ByteArray) (n : Int) (kids : List Ty)
namespace Ty
def op : Ty → Int | mk o _ _ _ => o
def name : Ty → ByteArray | mk _ s _ _ => s
def n : Ty → Int | mk _ _ n _ => n
def kids : Ty → List Ty | mk _ _ _ l => l
end Ty
theorem Ty.ind {p : Ty → Prop} (h : ∀ t, (∀ k ∈ t.kids, p k) → p t) (t : Ty) : p t := by
  generalize e : sizeOf t = n
  induction n using Nat.strongRecOn generalizing t with
  | ind n ih =>
    refine h t fun k hk => ih (sizeOf k) ?_ k rfl
    cases t with
    | mk o s m l =>
      have h1 : sizeOf k < sizeOf l := List.sizeOf_lt_of_mem hk
      rw [← e, Ty.mk.sizeOf_spec]
      omega
/-- The value reads as the tree. -/
inductive TyR (M : Nat → Prop) (w : World) : Ty → Value → Prop
  | mk {op n : Int} {name : ByteArray} {kids : List Ty} {a : Option Addr} {cap : Nat} (b off : Nat) (u : Nat → Value) (hop : 0 ≤ op ∧ op ≤ 255) (hs : name.size < 140737488355328) (hn : I64 n) (hl : kids.length < 140737488355328) (hc : kids.length ≤ cap)
      (ha : kids = [] ∨ a = some ⟨b, off, none⟩) (hu : ∀ (i : Nat) (x : Ty), kids[i]? = some x → TyR M w x (u i)) (hA : ∀ (i : Nat) (x : Ty), kids[i]? = some x → At M w b (off + i * 4) (u i).cells.toList) :
      TyR M w (.mk op name n kids) (.agg #[.int .u8 op, .string name, .int .i64 n, .slice a kids.length cap])
theorem TyR.map {M M' : Nat → Prop} {w w' : World} (hat : ∀ {b off : Nat} {cs : List Value}, At M w b off cs → At M' w' b off cs) : ∀ (t : Ty) (v : Value), TyR M w t v → TyR M' w' t v := by
  intro t v h
  induction h with
  | mk b off u hop hs hn hl hc ha hu hA ih => exact .mk b off u hop hs hn hl hc ha ih (fun i x hx => hat (hA i x hx))
instance : Rep Ty where
  sz := 4
  R := fun M w v t => TyR M w t v
  pos := by decide
  size := by
    intro M w v x h
    cases h; rfl
  one := by
    intro M w v x h u hu
    cases h
    simp [Value.cells] at hu
    rcases hu with rfl | rfl | rfl | rfl <;> rfl
  upd := fun h e => TyR.map (fun hA => hA.upd e) _ _ h
  wk := fun h e => TyR.map (fun hA => hA.wk e) _ _ h
theorem tO {M : Nat → Prop} {w : World} {v : Value} {t : Ty} (h : Rep.R M w v t) :
    ∃ kv, v = .agg #[.int .u8 t.op, .string t.name, .int .i64 t.n, kv] ∧ (0 ≤ t.op ∧ t.op ≤ 255) ∧ t.name.size < 140737488355328 ∧ I64 t.n ∧ Sl M w kv t.kids := by
  have h' : TyR M w t v := h
  cases h' with
  | mk b off u hop hs hn hl hc ha hu hA =>
    refine ⟨_, rfl, hop, hs, hn, _, _, rfl, hl, hc, ?_⟩
    rcases ha with ha | ha
    · exact .inl ha
    · exact .inr ⟨b, off, ha, fun i x hx => ⟨u i, hu i x hx, hA i x hx⟩⟩
theorem ty_mk {M : Nat → Prop} {w : World} {kv : Value} {op n : Int} {name : ByteArray} {kids : List Ty} (h1 : 0 ≤ op ∧ op ≤ 255) (h2 : name.size < 140737488355328) (h3 : I64 n) (hk : Sl M w kv kids) :
    Rep.R M w (.agg #[.int .u8 op, .string name, .int .i64 n, kv]) (Ty.mk op name n kids) := by
  show TyR M w _ _
  obtain ⟨a, cap, rfl, h4, h5, h6⟩ := hk
  rcases h6 with h6 | ⟨b, off, ha, h6⟩
  · subst h6
    exact .mk 0 0 (fun _ => .nilFunc) h1 h2 h3 h4 h5 (.inl rfl) (fun i x hx => by simp at hx) (fun i x hx => by simp at hx)
  · have h7 : ∀ i : Nat, ∃ u : Value, ∀ x : Ty, kids[i]? = some x → Rep.R M w u x ∧ At M w b (off + i * 4) u.cells.toList := by
      intro i
      cases hi : kids[i]? with
      | none => exact ⟨.nilFunc, fun x hx => by cases hx⟩
      | some y =>
        obtain ⟨u, hu, hA⟩ := h6 i y hi
        exact ⟨u, fun x hx => by cases hx; exact ⟨hu, hA⟩⟩
    obtain ⟨u, hu⟩ := Classical.axiomOfChoice h7
    exact .mk b off u h1 h2 h3 h4 h5 (.inr ha) (fun i x hx => (hu i x hx).1) (fun i x hx => (hu i x hx).2)
/-- A field: its name, its type. -/
structure Fld where
  name : ByteArray
  ty : Ty
instance : Rep Fld where
  sz := 5
  R := fun M w v f => f.name.size < 140737488355328 ∧ ∃ kv, v = .agg #[.string f.name, .int .u8 f.ty.op, .string f.ty.name, .int .i64 f.ty.n, kv] ∧ Rep.R M w (.agg #[.int .u8 f.ty.op, .string f.ty.name, .int .i64 f.ty.n, kv]) f.ty
  pos := by decide
  size := by rintro M w v x ⟨_, kv, rfl, _⟩; rfl
  one := by
    rintro M w v x ⟨_, kv, rfl, h⟩ u hu
    have := Rep.one h
    simp [Value.cells] at hu this
    rcases hu with rfl | rfl | rfl | rfl | rfl
    · rfl
    · rfl
    · rfl
    · rfl
    · exact this.2.2.2
  upd := fun ⟨h0, kv, h1, h2⟩ e => ⟨h0, kv, h1, Rep.upd h2 e⟩
  wk := fun ⟨h0, kv, h1, h2⟩ e => ⟨h0, kv, h1, Rep.wk h2 e⟩
theorem fld_open {M : Nat → Prop} {w : World} {v : Value} {f : Fld} (h : Rep.R M w v f) :
    f.name.size < 140737488355328 ∧ ∃ kv, v = .agg #[.string f.name, .int .u8 f.ty.op, .string f.ty.name, .int .i64 f.ty.n, kv] ∧ Rep.R M w (.agg #[.int .u8 f.ty.op, .string f.ty.name, .int .i64 f.ty.n, kv]) f.ty := h
theorem fld_mk {M : Nat → Prop} {w : World} {kv : Value} {name : ByteArray} {t : Ty} (h0 : name.size < 140737488355328) (h : Rep.R M w (.agg #[.int .u8 t.op, .string t.name, .int .i64 t.n, kv]) t) :
    Rep.R M w (.agg #[.string name, .int .u8 t.op, .string t.name, .int .i64 t.n, kv]) (⟨name, t⟩ : Fld) := ⟨h0, kv, rfl, h⟩
/-- A type's parts, itself first. -/
def partsL : Ty → List Ty
  | .mk o s n l => .mk o s n l :: l.flatMap partsL
theorem partsL_eq (t : Ty) : partsL t = t :: t.kids.flatMap partsL := by
  cases t; rw [partsL]; rfl
/-- How many parts. -/
def psz (t : Ty) : Nat := (partsL t).length
def pszs (l : List Ty) : Nat := (l.flatMap partsL).length
theorem psz_eq (t : Ty) : psz t = pszs t.kids + 1 := by
  unfold psz pszs; rw [partsL_eq]; simp
theorem pszs_cons (t : Ty) (l : List Ty) : pszs (t :: l) = psz t + pszs l := by simp [pszs, psz]
theorem pszs_nil : pszs [] = 0 := rfl
theorem pszs_append (l r : List Ty) : pszs (l ++ r) = pszs l + pszs r := by simp [pszs]
theorem psz_mem {t : Ty} : ∀ {l : List Ty}, t ∈ l → psz t ≤ pszs l
  | x :: l, h => by
    rw [pszs_cons]
    rcases List.mem_cons.1 h with rfl | h
    · omega
    · have := psz_mem h; omega
theorem psz_get {l : List Ty} {i : Nat} (h : i < l.length) : psz l[i] ≤ pszs l := psz_mem (gM h)
theorem psz_pos (t : Ty) : 0 < psz t := by rw [psz_eq]; omega
theorem len_psz : ∀ l : List Ty, l.length ≤ pszs l
  | [] => lR _
  | t :: l => by have := len_psz l; have := psz_pos t; rw [pszs_cons, List.length_cons]; omega
theorem take_step {l : List Ty} {i : Nat} (h : i < l.length) : (l.take (i + 1)).flatMap partsL = (l.take i).flatMap partsL ++ partsL l[i] := by
  rw [List.take_succ_eq_append_getElem h, List.flatMap_append]; simp only [List.flatMap_cons, List.flatMap_nil, List.append_nil]
theorem take_psz (l : List Ty) (i : Nat) : pszs (l.take i) ≤ pszs l := by
  have : pszs (l.take i ++ l.drop i) = pszs l := by rw [List.take_append_drop]
  rw [pszs_append] at this
  omega
theorem ty_eta (t : Ty) : t = .mk t.op t.name t.n t.kids := by cases t; rfl
end Rw
namespace Go.Proofs.YtpoahmeacjggfaaGreat
open Go Rw Go.RowKit
set_option maxRecDepth 4000
theorem parts_spec : ∀ (t : Ty) (M : Nat → Prop) (w : World) (v : Value), Rep.R M w v t → Low M w → psz t ≤ 2000000 → Calls Tryz.prog 72 #[v] w (Ret fun r w' => Sl M w' r (partsL t) ∧ Ext w w') := by
 refine Ty.ind fun t ih => ?_
 intro M w v ht hlow0 hsz
 have Lw := hlow0
 have hB := lR w.heap.size
 have hE := Below.refl w.heap.size w
 have hsub : ∀ b, M b → M b := fun _ h => h
 obtain ⟨kv, rfl, op, nm, n64, hk⟩ := tO ht
 have hps := psz_eq t
 have hkl := len_psz t.kids
 refine cN (n := 23) Tryz.func72 rfl rfl rfl ?_
 refine q0 ?_
 refine lC (o_box rfl rfl rfl ?_)
 intro b1 w1 hb_b1 ew1 h1
 replace h1 : Box _ b1 29 [.int .u8 t.op, .string t.name, .int .i64 t.n, kv] := h1
 replace h1 := h1.at (nO Lw hb_b1)
 replace hE := ew1.bl hE hB
 replace ht := Rep.Y ht ew1
 replace hk := hk.Y ew1
 replace Lw := Lw.Y ew1
 replace hB := ew1.z hB
 refine lP 1 tK rfl (q1 (q0 ?_))
 refine lC (oL tK (fun j v hv => h1.cell j v hv) rfl rfl rfl rfl rfl rfl ?_)
 refine lC (o_bs tK rfl rfl rfl rfl rfl rfl rfl (sz1 rfl) rfl rfl rfl ?_)
 intro bw2 w2 qbw2 ew2 hbw2
 have sw2 := Stp.add ew2 Lw hB (lQ qbw2.symm) hbw2.lt
 have le_bw2 := hB
 replace hE := hE.trans sw2.below
 replace ht := Rep.sp ht sw2
 replace hk := hk.sp sw2
 replace h1 := h1.sp sw2
 replace hsub := sw2.sb hsub
 replace Lw := sw2.low
 replace hB := sw2.z hB
 have ho := own_litS sw2 hbw2 (show Rs _ _ [_] [t] from ⟨ht, trivial⟩) qbw2 le_bw2 (by simp [maxLen])
 refine lP 1 tK rfl (q1 (cS (q0 (lP 1 tK rfl (q1 (cB ?_))))))
 refine c_loop3 (X := Nat) (Y := Value) (Z := Nat → Prop) (fun i v M1 => [(1, .pointer (some ⟨b1, 0, none⟩)), (3, v), (4, .int .i64 (i : Nat))]) (fun i v M1 w' => i ≤ t.kids.length ∧ OwnSl 29 w.heap.size M1 w' v (t :: (t.kids.take i).flatMap partsL) ∧ At M1 w' b1 0 [.int .u8 t.op, .string t.name, .int .i64 t.n, kv] ∧ Sl M1 w' kv t.kids ∧ Low M1 w' ∧ (∀ b, M b → M1 b) ∧ Below w.heap.size w w' ∧ w.heap.size ≤ w'.heap.size) (fun i v M1 => t.kids.length - i) (0) (.slice (some ⟨bw2, 0, none⟩) 1 1) ((Rw.Add M bw2)) (s3 rfl rfl rfl) ?_ ?_
 ·exact ⟨Nat.zero_le _, ho, h1, hk, Lw, hsub, hE, hB⟩
 rintro i v M1 w3 ⟨hi, ho, h1, hk, Lw, hsub, hE, hB⟩
 refine cS (q0 (lP 2 tK rfl ?_))
 refine lC (oD tK (h1.cell 3 _ rfl) rfl rfl rfl rfl rfl ?_)
 refine lC (o_len tK hk rfl rfl rfl rfl rfl ?_)
 refine lP 1 tK rfl (q1 ?_)
 refine cP _ rfl (fun c1 => ?_) (fun c1 => ?_)
 ·refine cK (xS (cS (cB (cG (lP 2 tK rfl ?_)))))
  refine lC (oD tK (h1.cell 3 _ rfl) rfl rfl rfl rfl rfl ?_)
  refine lP 1 tK rfl ?_
  have hik : i < t.kids.length := by omega
  have hp1 := psz_get hik
  have hp2 := take_psz t.kids i
  refine lC (o_ixS tK hk (gE hik) rfl rfl rfl rfl rfl rfl rfl rfl rfl ?_)
  intro ebx eox eux hyx hX
  obtain ⟨kvx, rfl, opx, nmx, n64x, hkx⟩ := tO hyx
  replace hX : At M1 w3 ebx eox [.int .u8 t.kids[i].op, .string t.kids[i].name, .int .i64 t.kids[i].n, kvx] := hX
  refine lC (oL tK (fun j v hv => hX.cell j v hv) rfl rfl rfl rfl rfl rfl ?_)
  refine lC (oK fo72 rfl rfl rfl (ih _ (gM hik) _ _ _ hyx Lw (by omega)) ?_)
  rintro vhr w4 ⟨hr, ew4⟩
  replace ho := ho.Y Lw hB ew4
  replace hE := ew4.bl hE hB
  replace h1 := h1.Y ew4
  replace hk := hk.Y ew4
  replace hyx := Rep.Y hyx ew4
  replace hkx := hkx.Y ew4
  replace hX := hX.Y ew4
  replace Lw := Lw.Y ew4
  replace hB := ew4.z hB
  have e1 : (t :: (t.kids.take i).flatMap partsL).length = pszs (t.kids.take i) + 1 := rfl
  have e2 : (partsL t.kids[i]).length = psz t.kids[i] := rfl
  have e3 := take_psz t.kids (i + 1)
  rw [show pszs (t.kids.take (i + 1)) = pszs (t.kids.take i) + psz t.kids[i] by unfold pszs; rw [take_step hik, List.length_append]; rfl] at e3
  refine lC (o_app tK ho hr Lw hB rfl rfl rfl rfl rfl rfl rfl (by omega) (by rw [e1, e2]; show _ * 56 ≤ _; omega) rfl rfl ?_)
  intro vw5 w5 Mw5 hw5 sw5 frw5 blw5
  replace hE := hE.trans sw5.below
  replace h1 := h1.sp sw5
  replace hk := hk.sp sw5
  replace hyx := Rep.sp hyx sw5
  replace hkx := hkx.sp sw5
  replace hX := hX.sp sw5
  replace hr := hr.sp sw5
  replace hsub := sw5.sb hsub
  replace Lw := sw5.low
  replace hB := sw5.z hB
  replace ho := hw5
  clear hw5
  refine lP 1 tK rfl (q2 (xS (cG (lP 1 tK rfl ?_))))
  refine lC (o_ai rfl rfl rfl (by omega) rfl rfl ?_)
  refine lP 1 tK rfl (lN ?_)
  exact x_round3 (i + 1) (vw5) (Mw5) (s3 rfl rfl rfl) ⟨by omega, by rw [take_step hik]; exact ho, h1, hk, Lw, hsub, hE, hB⟩ (by omega)
 refine c_exit (xE (xE (x_blkE (xS (q0 (lP 2 tK rfl (q1 (cR (x1_ rfl rfl ?_)))))))))
 obtain rfl : i = t.kids.length := by omega
 rw [List.take_of_length_le (lR _), ← partsL_eq] at ho
 exact ⟨ho.sl (by have : (partsL t).length = psz t := rfl; omega) hlow0 hsub, hE⟩
end Go.Proofs.YtpoahmeacjggfaaGreat
namespace Rw
def smallB (c : UInt8) : Bool := decide (97 ≤ c.toNat ∧ c.toNat ≤ 122)
def digitB (c : UInt8) : Bool := decide (48 ≤ c.toNat ∧ c.toNat ≤ 57)
/-- May the byte at a place stand in a word? -/
def wordAt (s : ByteArray) (i : Nat) : Bool := match s.data[i]? with
  | some c => smallB c || (decide (i ≠ 0) && (digitB c || decide (c.toNat = 95)))
  | none => true
def wordlyB (s : ByteArray) : Bool := decide (s.size ≠ 0) && (List.range s.size).all (wordAt s)
def ownW : List ByteArray := [⟨#[102, 117, 110]⟩, ⟨#[114, 101, 99]⟩, ⟨#[108, 101, 116]⟩, ⟨#[105, 110]⟩, ⟨#[105, 102]⟩, ⟨#[116, 104, 101, 110]⟩, ⟨#[101, 108, 115, 101]⟩, ⟨#[99, 97, 115, 101]⟩, ⟨#[111, 102]⟩, ⟨#[101, 110, 100]⟩, ⟨#[116, 114, 117, 101]⟩, ⟨#[102, 97, 108, 115, 101]⟩, ⟨#[100, 101, 102]⟩, ⟨#[73, 110, 116]⟩, ⟨#[66, 111, 111, 108]⟩]
def ownB (s : ByteArray) : Bool := ownW.any fun x => decide (s = x)
def isWordB (s : ByteArray) : Bool := decide (s.size ≤ 32) && wordlyB s && !ownB s
/-- The document's kinds of bytes. -/
def kindN (c : UInt8) : Int := if 97 ≤ c.toNat ∧ c.toNat ≤ 122 then 1 else if 65 ≤ c.toNat ∧ c.toNat ≤ 90 then 2 else if 48 ≤ c.toNat ∧ c.toNat ≤ 57 then 3 else if c.toNat = 95 then 4 else 0
theorem size_data (s : ByteArray) : s.data.size = s.size := rfl
theorem word_no {s : ByteArray} {i : Nat} (hi : i < s.size) (h : wordAt s i = false) : wordlyB s = false := by
  unfold wordlyB
  have : (List.range s.size).all (wordAt s) = false := by
    rw [List.all_eq_false]
    exact ⟨i, List.mem_range.2 hi, by simp [h]⟩
  simp [this]
theorem word_all {s : ByteArray} {i : Nat} (hi : s.size ≤ i) (h : ∀ j, j < i → wordAt s j = true) : wordlyB s = decide (s.size ≠ 0) := by
  unfold wordlyB
  have : (List.range s.size).all (wordAt s) = true := by
    rw [List.all_eq_true]
    intro j hj
    exact h j (by have := List.mem_range.1 hj; omega)
  simp [this]
theorem word_step {s : ByteArray} {i : Nat} (h : ∀ j, j < i → wordAt s j = true) (hi : wordAt s i = true) : ∀ j, j < i + 1 → wordAt s j = true := by
  intro j hj
  by_cases e : j = i
  · subst e; exact hi
  · exact h j (by omega)
theorem size_zero {s : ByteArray} : s.size = 0 ↔ s = ⟨#[]⟩ := by
  cases s with | mk a =>
  constructor
  · intro h
    have : a.size = 0 := h
    rw [Array.eq_empty_of_size_eq_zero this]
  · intro h; rw [h]; rfl
theorem word_kind {s : ByteArray} {i : Nat} {c : UInt8} (h : s.data[i]? = some c) : wordAt s i = (decide (kindN c ≠ 0) && decide (kindN c ≠ 2) && (decide (i ≠ 0) || decide (kindN c = 1))) := by
  unfold wordAt
  rw [h]
  rw [Bool.eq_iff_iff]
  simp only [smallB, digitB, Bool.or_eq_true, Bool.and_eq_true, decide_eq_true_eq]
  unfold kindN
  (repeat' split) <;> omega
theorem any_no {α : Type} {l : List α} {p : α → Bool} {k : Nat} (hk : l.length ≤ k) (hno : ∀ (j : Nat) x, j < k → l[j]? = some x → p x = false) : l.any p = false := by
  rw [List.any_eq_false]
  intro x hx
  obtain ⟨j, hj, rfl⟩ := List.getElem_of_mem hx
  rw [hno j l[j] (by omega) (gE hj)]
  simp
end Rw
namespace Go.Proofs.YtpoahmeacjggfaaGreat
open Go Rw Go.RowKit
set_option maxRecDepth 4000
theorem small_spec (w : World) (c : UInt8) :
  Calls Tryz.prog 109 #[.int .u8 (c.toNat : Int)] w (Ret fun r w' => r = .bool (smallB c) ∧ w = w') := by
 refine cN (n := 9) Tryz.func109 rfl rfl rfl ?_
 refine q0 (lP 1 tK rfl (q1 (q0 (lP 3 tK rfl ?_))))
 refine lS 5 _ rfl (fun c1 => ?_) (fun c1 => ?_)
 ·refine lP 4 tK rfl (q1 (cR (x1_ rfl rfl ?_)))
  exact ⟨by congr 1; rw [Bool.eq_iff_iff]; simp [smallB] <;> omega, rfl⟩
 refine lP 4 tK rfl (q1 (cR (x1_ rfl rfl ?_)))
 exact ⟨by congr 1; rw [Bool.eq_iff_iff]; simp [smallB] <;> omega, rfl⟩
theorem digit_spec (w : World) (c : UInt8) :
  Calls Tryz.prog 110 #[.int .u8 (c.toNat : Int)] w (Ret fun r w' => r = .bool (digitB c) ∧ w = w') := by
 refine cN (n := 9) Tryz.func110 rfl rfl rfl ?_
 refine q0 (lP 1 tK rfl (q1 (q0 (lP 3 tK rfl ?_))))
 refine lS 5 _ rfl (fun c1 => ?_) (fun c1 => ?_)
 ·refine lP 4 tK rfl (q1 (cR (x1_ rfl rfl ?_)))
  exact ⟨by congr 1; rw [Bool.eq_iff_iff]; simp [digitB] <;> omega, rfl⟩
 refine lP 4 tK rfl (q1 (cR (x1_ rfl rfl ?_)))
 exact ⟨by congr 1; rw [Bool.eq_iff_iff]; simp [digitB] <;> omega, rfl⟩
theorem kind_spec (w : World) (c : UInt8) :
  Calls Tryz.prog 89 #[.int .u8 (c.toNat : Int)] w (Ret fun r w' => r = .int .i64 (kindN c) ∧ w = w') := by
 refine cN (n := 27) Tryz.func89 rfl rfl rfl ?_
 refine q0 (lP 1 tK rfl (q1 (cS (cB (q0 (lP 3 tK rfl ?_))))))
 refine lS 6 _ rfl (fun c1 => ?_) (fun c1 => ?_)
 ·refine lP 4 tK rfl (q1 ?_)
  refine cP _ rfl (fun c2 => ?_) (fun c2 => ?_)
  ·refine q0 (lP 1 tK rfl (q1 (cR (xB (xR (x1_ rfl rfl ?_))))))
   exact ⟨by congr 1; unfold kindN; (repeat' split) <;> omega, rfl⟩
  refine q0 (lP 3 tK rfl ?_)
  refine lS 13 _ rfl (fun c3 => ?_) (fun c3 => ?_)
  ·refine lP 4 tK rfl (q1 ?_)
   refine cP _ rfl (fun c4 => ?_) (fun c4 => ?_)
   ·refine q0 (lP 1 tK rfl (q1 (cR (xB (xR (x1_ rfl rfl ?_))))))
    exact ⟨by congr 1; unfold kindN; (repeat' split) <;> omega, rfl⟩
   refine q0 (lP 3 tK rfl ?_)
   refine lS 20 _ rfl (fun c5 => ?_) (fun c5 => ?_)
   ·refine lP 4 tK rfl (q1 ?_)
    refine cP _ rfl (fun c6 => ?_) (fun c6 => ?_)
    ·refine q0 (lP 1 tK rfl (q1 (cR (xB (xR (x1_ rfl rfl ?_))))))
     exact ⟨by congr 1; unfold kindN; (repeat' split) <;> omega, rfl⟩
    refine q0 (lP 3 tK rfl (q1 ?_))
    refine cP _ rfl (fun c7 => ?_) (fun c7 => ?_)
    ·refine q0 (lP 1 tK rfl (q1 (cR (xB (xR (x1_ rfl rfl ?_))))))
     exact ⟨by congr 1; unfold kindN; (repeat' split) <;> omega, rfl⟩
    refine cK (x_blk (xS (q0 (lP 1 tK rfl (q1 (cR (x1_ rfl rfl ?_)))))))
    exact ⟨by congr 1; unfold kindN; (repeat' split) <;> omega, rfl⟩
   refine lP 4 tK rfl (q1 (c_ifF rfl (q0 (lP 3 tK rfl (q1 ?_)))))
   refine cP _ rfl (fun c8 => ?_) (fun c8 => ?_)
   ·refine q0 (lP 1 tK rfl (q1 (cR (xB (xR (x1_ rfl rfl ?_))))))
    exact ⟨by congr 1; unfold kindN; (repeat' split) <;> omega, rfl⟩
   refine cK (x_blk (xS (q0 (lP 1 tK rfl (q1 (cR (x1_ rfl rfl ?_)))))))
   exact ⟨by congr 1; unfold kindN; (repeat' split) <;> omega, rfl⟩
  refine lP 4 tK rfl (q1 (c_ifF rfl (q0 (lP 3 tK rfl ?_))))
  refine lS 20 _ rfl (fun c9 => ?_) (fun c9 => ?_)
  ·refine lP 4 tK rfl (q1 ?_)
   refine cP _ rfl (fun c10 => ?_) (fun c10 => ?_)
   ·refine q0 (lP 1 tK rfl (q1 (cR (xB (xR (x1_ rfl rfl ?_))))))
    exact ⟨by congr 1; unfold kindN; (repeat' split) <;> omega, rfl⟩
   refine q0 (lP 3 tK rfl (q1 ?_))
   refine cP _ rfl (fun c11 => ?_) (fun c11 => ?_)
   ·refine q0 (lP 1 tK rfl (q1 (cR (xB (xR (x1_ rfl rfl ?_))))))
    exact ⟨by congr 1; unfold kindN; (repeat' split) <;> omega, rfl⟩
   refine cK (x_blk (xS (q0 (lP 1 tK rfl (q1 (cR (x1_ rfl rfl ?_)))))))
   exact ⟨by congr 1; unfold kindN; (repeat' split) <;> omega, rfl⟩
  refine lP 4 tK rfl (q1 (c_ifF rfl (q0 (lP 3 tK rfl (q1 ?_)))))
  refine cP _ rfl (fun c12 => ?_) (fun c12 => ?_)
  ·refine q0 (lP 1 tK rfl (q1 (cR (xB (xR (x1_ rfl rfl ?_))))))
   exact ⟨by congr 1; unfold kindN; (repeat' split) <;> omega, rfl⟩
  refine cK (x_blk (xS (q0 (lP 1 tK rfl (q1 (cR (x1_ rfl rfl ?_)))))))
  exact ⟨by congr 1; unfold kindN; (repeat' split) <;> omega, rfl⟩
 refine lP 4 tK rfl (q1 (c_ifF rfl (q0 (lP 3 tK rfl ?_))))
 refine lS 13 _ rfl (fun c13 => ?_) (fun c13 => ?_)
 ·refine lP 4 tK rfl (q1 ?_)
  refine cP _ rfl (fun c14 => ?_) (fun c14 => ?_)
  ·refine q0 (lP 1 tK rfl (q1 (cR (xB (xR (x1_ rfl rfl ?_))))))
   exact ⟨by congr 1; unfold kindN; (repeat' split) <;> omega, rfl⟩
  refine q0 (lP 3 tK rfl ?_)
  refine lS 20 _ rfl (fun c15 => ?_) (fun c15 => ?_)
  ·refine lP 4 tK rfl (q1 ?_)
   refine cP _ rfl (fun c16 => ?_) (fun c16 => ?_)
   ·refine q0 (lP 1 tK rfl (q1 (cR (xB (xR (x1_ rfl rfl ?_))))))
    exact ⟨by congr 1; unfold kindN; (repeat' split) <;> omega, rfl⟩
   refine q0 (lP 3 tK rfl (q1 ?_))
   refine cP _ rfl (fun c17 => ?_) (fun c17 => ?_)
   ·refine q0 (lP 1 tK rfl (q1 (cR (xB (xR (x1_ rfl rfl ?_))))))
    exact ⟨by congr 1; unfold kindN; (repeat' split) <;> omega, rfl⟩
   refine cK (x_blk (xS (q0 (lP 1 tK rfl (q1 (cR (x1_ rfl rfl ?_)))))))
   exact ⟨by congr 1; unfold kindN; (repeat' split) <;> omega, rfl⟩
  refine lP 4 tK rfl (q1 (c_ifF rfl (q0 (lP 3 tK rfl (q1 ?_)))))
  refine cP _ rfl (fun c18 => ?_) (fun c18 => ?_)
  ·refine q0 (lP 1 tK rfl (q1 (cR (xB (xR (x1_ rfl rfl ?_))))))
   exact ⟨by congr 1; unfold kindN; (repeat' split) <;> omega, rfl⟩
  refine cK (x_blk (xS (q0 (lP 1 tK rfl (q1 (cR (x1_ rfl rfl ?_)))))))
  exact ⟨by congr 1; unfold kindN; (repeat' split) <;> omega, rfl⟩
 refine lP 4 tK rfl (q1 (c_ifF rfl (q0 (lP 3 tK rfl ?_))))
 refine lS 20 _ rfl (fun c19 => ?_) (fun c19 => ?_)
 ·refine lP 4 tK rfl (q1 ?_)
  refine cP _ rfl (fun c20 => ?_) (fun c20 => ?_)
  ·refine q0 (lP 1 tK rfl (q1 (cR (xB (xR (x1_ rfl rfl ?_))))))
   exact ⟨by congr 1; unfold kindN; (repeat' split) <;> omega, rfl⟩
  refine q0 (lP 3 tK rfl (q1 ?_))
  refine cP _ rfl (fun c21 => ?_) (fun c21 => ?_)
  ·refine q0 (lP 1 tK rfl (q1 (cR (xB (xR (x1_ rfl rfl ?_))))))
   exact ⟨by congr 1; unfold kindN; (repeat' split) <;> omega, rfl⟩
  refine cK (x_blk (xS (q0 (lP 1 tK rfl (q1 (cR (x1_ rfl rfl ?_)))))))
  exact ⟨by congr 1; unfold kindN; (repeat' split) <;> omega, rfl⟩
 refine lP 4 tK rfl (q1 (c_ifF rfl (q0 (lP 3 tK rfl (q1 ?_)))))
 refine cP _ rfl (fun c22 => ?_) (fun c22 => ?_)
 ·refine q0 (lP 1 tK rfl (q1 (cR (xB (xR (x1_ rfl rfl ?_))))))
  exact ⟨by congr 1; unfold kindN; (repeat' split) <;> omega, rfl⟩
 refine cK (x_blk (xS (q0 (lP 1 tK rfl (q1 (cR (x1_ rfl rfl ?_)))))))
 exact ⟨by congr 1; unfold kindN; (repeat' split) <;> omega, rfl⟩
theorem own_spec (w : World) (s : ByteArray) :
  Calls Tryz.prog 98 #[.string s] w (Ret fun r w' => r = .bool (ownB s) ∧ w = w') := by
 refine cN (n := 20) Tryz.func98 rfl rfl rfl ?_
 refine q0 (lP 1 tK rfl (q1 (cS (q0 (lP 1 tK rfl (q1 (cB (cS (q0 (lP 2 tK rfl (q1 ?_)))))))))))
 refine c_splitP 4 _ rfl (fun c1 => cI rfl ?_) (fun c1 => c_ifF rfl ?_)
 ·refine cK (xS (cI rfl (q0 (lP 1 tK rfl (q1 (cR (xB (xR (x1_ rfl rfl ?_)))))))))
  exact ⟨by simp [ownB, ownW, *], rfl⟩
 refine q0 (lP 2 tK rfl (q1 ?_))
 refine c_splitP 4 _ rfl (fun c2 => cI rfl ?_) (fun c2 => c_ifF rfl ?_)
 ·refine cK (xS (cI rfl (q0 (lP 1 tK rfl (q1 (cR (xB (xR (x1_ rfl rfl ?_)))))))))
  exact ⟨by simp [ownB, ownW, *], rfl⟩
 refine q0 (lP 2 tK rfl (q1 ?_))
 refine c_splitP 4 _ rfl (fun c3 => cI rfl ?_) (fun c3 => c_ifF rfl ?_)
 ·refine cK (xS (cI rfl (q0 (lP 1 tK rfl (q1 (cR (xB (xR (x1_ rfl rfl ?_)))))))))
  exact ⟨by simp [ownB, ownW, *], rfl⟩
 refine q0 (lP 2 tK rfl (q1 ?_))
 refine c_splitP 4 _ rfl (fun c4 => cI rfl ?_) (fun c4 => c_ifF rfl ?_)
 ·refine cK (xS (cI rfl (q0 (lP 1 tK rfl (q1 (cR (xB (xR (x1_ rfl rfl ?_)))))))))
  exact ⟨by simp [ownB, ownW, *], rfl⟩
 refine q0 (lP 2 tK rfl (q1 ?_))
 refine c_splitP 4 _ rfl (fun c5 => cI rfl ?_) (fun c5 => c_ifF rfl ?_)
 ·refine cK (xS (cI rfl (q0 (lP 1 tK rfl (q1 (cR (xB (xR (x1_ rfl rfl ?_)))))))))
  exact ⟨by simp [ownB, ownW, *], rfl⟩
 refine q0 (lP 2 tK rfl (q1 ?_))
 refine c_splitP 4 _ rfl (fun c6 => cI rfl ?_) (fun c6 => c_ifF rfl ?_)
 ·refine cK (xS (cI rfl (q0 (lP 1 tK rfl (q1 (cR (xB (xR (x1_ rfl rfl ?_)))))))))
  exact ⟨by simp [ownB, ownW, *], rfl⟩
 refine q0 (lP 2 tK rfl (q1 ?_))
 refine c_splitP 4 _ rfl (fun c7 => cI rfl ?_) (fun c7 => c_ifF rfl ?_)
 ·refine cK (xS (cI rfl (q0 (lP 1 tK rfl (q1 (cR (xB (xR (x1_ rfl rfl ?_)))))))))
  exact ⟨by simp [ownB, ownW, *], rfl⟩
 refine q0 (lP 2 tK rfl (q1 ?_))
 refine c_splitP 4 _ rfl (fun c8 => cI rfl ?_) (fun c8 => c_ifF rfl ?_)
 ·refine cK (xS (cI rfl (q0 (lP 1 tK rfl (q1 (cR (xB (xR (x1_ rfl rfl ?_)))))))))
  exact ⟨by simp [ownB, ownW, *], rfl⟩
 refine q0 (lP 2 tK rfl (q1 ?_))
 refine c_splitP 4 _ rfl (fun c9 => cI rfl ?_) (fun c9 => c_ifF rfl ?_)
 ·refine cK (xS (cI rfl (q0 (lP 1 tK rfl (q1 (cR (xB (xR (x1_ rfl rfl ?_)))))))))
  exact ⟨by simp [ownB, ownW, *], rfl⟩
 refine q0 (lP 2 tK rfl (q1 ?_))
 refine c_splitP 4 _ rfl (fun c10 => cI rfl ?_) (fun c10 => c_ifF rfl ?_)
 ·refine cK (xS (cI rfl (q0 (lP 1 tK rfl (q1 (cR (xB (xR (x1_ rfl rfl ?_)))))))))
  exact ⟨by simp [ownB, ownW, *], rfl⟩
 refine q0 (lP 2 tK rfl (q1 ?_))
 refine c_splitP 4 _ rfl (fun c11 => cI rfl ?_) (fun c11 => c_ifF rfl ?_)
 ·refine cK (xS (cI rfl (q0 (lP 1 tK rfl (q1 (cR (xB (xR (x1_ rfl rfl ?_)))))))))
  exact ⟨by simp [ownB, ownW, *], rfl⟩
 refine q0 (lP 2 tK rfl (q1 ?_))
 refine c_splitP 4 _ rfl (fun c12 => cI rfl ?_) (fun c12 => c_ifF rfl ?_)
 ·refine cK (xS (cI rfl (q0 (lP 1 tK rfl (q1 (cR (xB (xR (x1_ rfl rfl ?_)))))))))
  exact ⟨by simp [ownB, ownW, *], rfl⟩
 refine q0 (lP 2 tK rfl (q1 ?_))
 refine c_splitP 4 _ rfl (fun c13 => cI rfl ?_) (fun c13 => c_ifF rfl ?_)
 ·refine cK (xS (cI rfl (q0 (lP 1 tK rfl (q1 (cR (xB (xR (x1_ rfl rfl ?_)))))))))
  exact ⟨by simp [ownB, ownW, *], rfl⟩
 refine q0 (lP 2 tK rfl (q1 ?_))
 refine c_splitP 4 _ rfl (fun c14 => cI rfl ?_) (fun c14 => c_ifF rfl ?_)
 ·refine cK (xS (cI rfl (q0 (lP 1 tK rfl (q1 (cR (xB (xR (x1_ rfl rfl ?_)))))))))
  exact ⟨by simp [ownB, ownW, *], rfl⟩
 refine cG (lP 2 tK rfl (q1 ?_))
 refine c_splitP 4 _ rfl (fun c15 => cI rfl ?_) (fun c15 => c_ifF rfl ?_)
 ·refine q0 (lP 1 tK rfl (q1 (cR (xB (xR (x1_ rfl rfl ?_))))))
  exact ⟨by simp [ownB, ownW, *], rfl⟩
 refine cK (x_blk (xS (q0 (lP 1 tK rfl (q1 (cR (x1_ rfl rfl ?_)))))))
 exact ⟨by simp [ownB, ownW, *], rfl⟩
theorem wordly_spec (w : World) (s : ByteArray) (hs : s.size < 140737488355328) :
  Calls Tryz.prog 97 #[.string s] w (Ret fun r w' => r = .bool (wordlyB s) ∧ w = w') := by
 refine cN (n := 32) Tryz.func97 rfl rfl rfl ?_
 refine q0 (lP 1 tK rfl (q1 (cS (q0 (lP 3 tK rfl (q1 (cB ?_)))))))
 refine c_loop (X := Nat) (fun i => [(0, .string s), (6, .int .i64 (s.size : Int)), (7, .int .i64 (i : Nat))]) (fun i w' => w = w' ∧ i ≤ s.size ∧ ∀ j, j < i → wordAt s j = true) (fun i => s.size - i) (0) (s3 rfl rfl rfl) ?_ ?_
 ·exact ⟨rfl, Nat.zero_le _, fun j hj => absurd hj (Nat.not_lt_zero _)⟩
 rintro i _ ⟨rfl, hi, hall⟩
 refine q0 (lP 1 tK rfl (q1 (cS ?_)))
 refine cP _ rfl (fun c1 => ?_) (fun c1 => ?_)
 ·refine cK (xS (cS (cB (q0 (lP 2 tK rfl (q1 (q0 (lP 2 tK rfl ?_))))))))
  have his : i < s.size := by omega
  have hd : s.data[i]? = some s.data[i] := Array.getElem?_eq_getElem his
  generalize hcc : s.data[i] = ch at hd
  refine lC (o_si tK rfl rfl rfl rfl rfl hd rfl rfl ?_)
  refine lP 1 tK rfl (q1 (q0 (lP 1 tK rfl ?_)))
  refine lC (oK fo109 rfl rfl rfl (small_spec _ ch) ?_)
  rintro _ _ ⟨rfl, rfl⟩
  refine lP 2 tK rfl ?_
  refine l_splitB 16 _ rfl (fun c2 => ?_) (fun c2 => ?_)
  ·refine lP 3 tK rfl ?_
   refine lS 19 _ rfl (fun c3 => ?_) (fun c3 => ?_)
   ·refine lP 9 tK rfl (q1 (cI rfl (q0 (lP 1 tK rfl (q1 (cR (xB (xR (xR (xB (xR (x1_ rfl rfl ?_))))))))))))
    first
    | exact ⟨by rw [word_all (by omega) hall]; congr 1; rw [Bool.eq_iff_iff]; simp only [size_zero, ne_eq, Bool.not_eq_true', decide_eq_false_iff_not, decide_eq_true_eq], rfl⟩
    | exact ⟨by rw [word_no (i := i) (by omega) (by simp_all [wordAt] <;> omega)], rfl⟩
   refine lP 1 tK rfl ?_
   refine lC (oK fo110 rfl rfl rfl (digit_spec _ ch) ?_)
   rintro _ _ ⟨rfl, rfl⟩
   refine lP 2 tK rfl ?_
   refine l_splitB 23 _ rfl (fun c4 => ?_) (fun c4 => ?_)
   ·refine lP 5 tK rfl (q1 ?_)
    refine c_ifN _ rfl (fun c5 => ?_) (fun c5 => ?_)
    ·refine q0 (lP 1 tK rfl (q1 (cR (xB (xR (xR (xB (xR (x1_ rfl rfl ?_)))))))))
     first
     | exact ⟨by rw [word_all (by omega) hall]; congr 1; rw [Bool.eq_iff_iff]; simp only [size_zero, ne_eq, Bool.not_eq_true', decide_eq_false_iff_not, decide_eq_true_eq], rfl⟩
     | exact ⟨by rw [word_no (i := i) (by omega) (by simp_all [wordAt] <;> omega)], rfl⟩
    refine cK (x_blk (xS (cG ?_)))
    refine lC (o_ai rfl rfl rfl (by omega) rfl rfl ?_)
    refine lP 1 tK rfl (lN ?_)
    exact x_round (i + 1) (s3 rfl rfl rfl) ⟨rfl, by omega, word_step hall (by simp_all [wordAt] <;> omega)⟩ (by omega)
   refine lP 5 tK rfl (q1 (c_ifF rfl (cK (x_blk (xS (cG ?_))))))
   refine lC (o_ai rfl rfl rfl (by omega) rfl rfl ?_)
   refine lP 1 tK rfl (lN ?_)
   exact x_round (i + 1) (s3 rfl rfl rfl) ⟨rfl, by omega, word_step hall (by simp_all [wordAt] <;> omega)⟩ (by omega)
  refine lP 12 tK rfl (q1 (c_ifF rfl (cK (x_blk (xS (cG ?_))))))
  refine lC (o_ai rfl rfl rfl (by omega) rfl rfl ?_)
  refine lP 1 tK rfl (lN ?_)
  exact x_round (i + 1) (s3 rfl rfl rfl) ⟨rfl, by omega, word_step hall (by simp_all [wordAt] <;> omega)⟩ (by omega)
 refine c_exit (xE (xE (x_blkE (xS (q0 (lP 3 tK rfl (q1 (cR (x1_ rfl rfl ?_)))))))))
 first
 | exact ⟨by rw [word_all (by omega) hall]; congr 1; rw [Bool.eq_iff_iff]; simp only [size_zero, ne_eq, Bool.not_eq_true', decide_eq_false_iff_not, decide_eq_true_eq], rfl⟩
 | exact ⟨by rw [word_no (i := i) (by omega) (by simp_all [wordAt] <;> omega)], rfl⟩
theorem isWord_spec (w : World) (s : ByteArray) (hs : s.size < 140737488355328) :
  Calls Tryz.prog 78 #[.string s] w (Ret fun r w' => r = .bool (isWordB s) ∧ w = w') := by
 refine cN (n := 15) Tryz.func78 rfl rfl rfl ?_
 refine q0 (lP 1 tK rfl (q1 (q0 (lP 4 tK rfl ?_))))
 refine lS 6 _ rfl (fun c1 => ?_) (fun c1 => ?_)
 ·refine lP 1 tK rfl ?_
  refine lC (oK fo97 rfl rfl rfl (wordly_spec _ s hs) ?_)
  rintro _ _ ⟨rfl, rfl⟩
  refine lP 2 tK rfl ?_
  refine l_split 10 _ rfl (fun c2 => ?_) (fun c2 => ?_)
  ·refine lP 1 tK rfl ?_
   refine lC (oK fo98 rfl rfl rfl (own_spec _ s) ?_)
   rintro _ _ ⟨rfl, rfl⟩
   refine lP 3 tK rfl (q1 (cR (x1_ rfl rfl ?_)))
   exact ⟨by unfold isWordB; by_cases h32 : s.size ≤ 32 <;> simp_all <;> omega, rfl⟩
  refine lP 5 tK rfl (q1 (cR (x1_ rfl rfl ?_)))
  exact ⟨by unfold isWordB; by_cases h32 : s.size ≤ 32 <;> simp_all <;> omega, rfl⟩
 refine lP 9 tK rfl (q1 (cR (x1_ rfl rfl ?_)))
 exact ⟨by unfold isWordB; by_cases h32 : s.size ≤ 32 <;> simp_all <;> omega, rfl⟩
theorem in2_spec (M : Nat → Prop) (w : World) (v : Value) (l : List ByteArray) (s : ByteArray) (hl : Sl M w v l) :
  Calls Tryz.prog 69 #[v, .string s] w (Ret fun r w' => r = .bool (l.any fun x => decide (s = x)) ∧ w = w') := by
 have hlt := hl.lt
 refine cN (n := 18) Tryz.func69 rfl rfl rfl ?_
 refine q0 (lP 1 tK rfl (q1 (cS (q0 (lP 1 tK rfl (q1 (cB ?_)))))))
 refine c_loop (X := Nat) (fun i => [(0, v), (1, .string s), (5, .int .i64 (i : Nat))]) (fun i w' => w = w' ∧ i ≤ l.length ∧ ∀ (j : Nat) x, j < i → l[j]? = some x → decide (s = x) = false) (fun i => l.length - i) (0) (s3 rfl rfl rfl) ?_ ?_
 ·exact ⟨rfl, Nat.zero_le _, fun j x hj => absurd hj (Nat.not_lt_zero _)⟩
 rintro i _ ⟨rfl, hi, hno⟩
 refine cS (q0 (lP 2 tK rfl ?_))
 refine lC (o_len tK hl rfl rfl rfl rfl rfl ?_)
 refine lP 1 tK rfl (q1 ?_)
 refine cP _ rfl (fun c1 => ?_) (fun c1 => ?_)
 ·refine cK (xS (cS (cB (q0 (lP 2 tK rfl ?_)))))
  have hil : i < l.length := by omega
  refine lC (o_ixS tK hl (gE hil) rfl rfl rfl rfl rfl rfl rfl rfl rfl ?_)
  intro b o u hr hat
  obtain ⟨rfl, _⟩ := hr
  refine lC (oD tK (hat.cell 0 _ rfl) rfl rfl rfl rfl rfl ?_)
  refine lP 2 tK rfl (q1 ?_)
  refine cP _ rfl (fun c2 => ?_) (fun c2 => ?_)
  ·refine q0 (lP 1 tK rfl (q1 (cR (xB (xR (xR (xB (xR (x1_ rfl rfl ?_)))))))))
   first
   | exact ⟨by rw [List.any_eq_true.2 ⟨l[i], gM hil, by simp [*]⟩], rfl⟩
   | exact ⟨by rw [any_no (by omega) hno], rfl⟩
  refine cK (x_blk (xS (cG (lP 1 tK rfl ?_))))
  refine lC (o_ai rfl rfl rfl (by omega) rfl rfl ?_)
  refine lP 1 tK rfl (lN ?_)
  exact x_round (i + 1) (s3 rfl rfl rfl) ⟨rfl, by omega, idx_step hno hil (by simpa [eq_comm] using c2)⟩ (by omega)
 refine c_exit (xE (xE (x_blkE (xS (q0 (lP 1 tK rfl (q1 (cR (x1_ rfl rfl ?_)))))))))
 first
 | exact ⟨by rw [List.any_eq_true.2 ⟨l[i], gM hil, by simp [*]⟩], rfl⟩
 | exact ⟨by rw [any_no (by omega) hno], rfl⟩
theorem rwordly_spec (w : World) (s : ByteArray) (hs : s.size < 140737488355328) :
  Calls Tryz.prog 68 #[.string s] w (Ret fun r w' => r = .bool (wordlyB s) ∧ w = w') := by
 refine cN (n := 32) Tryz.func68 rfl rfl rfl ?_
 refine q0 (lP 1 tK rfl (q1 (cS (q0 (lP 1 tK rfl (q1 (cB ?_)))))))
 refine c_loop (X := Nat) (fun i => [(0, .string s), (3, .int .i64 (i : Nat))]) (fun i w' => w = w' ∧ i ≤ s.size ∧ ∀ j, j < i → wordAt s j = true) (fun i => s.size - i) (0) (s2 rfl rfl) ?_ ?_
 ·exact ⟨rfl, Nat.zero_le _, fun j hj => absurd hj (Nat.not_lt_zero _)⟩
 rintro i _ ⟨rfl, hi, hall⟩
 refine cS (q0 (lP 4 tK rfl (q1 ?_)))
 refine cP _ rfl (fun c1 => ?_) (fun c1 => ?_)
 ·refine cK (xS (cS (cB (q0 (lP 2 tK rfl ?_)))))
  have his : i < s.size := by omega
  have hd : s.data[i]? = some s.data[i] := Array.getElem?_eq_getElem his
  generalize hcc : s.data[i] = ch at hd
  refine lC (o_si tK rfl rfl rfl rfl rfl hd rfl rfl ?_)
  refine lC (oK fo89 rfl rfl rfl (kind_spec _ ch) ?_)
  rintro _ _ ⟨rfl, rfl⟩
  refine lP 1 tK rfl (q1 (q0 (lP 3 tK rfl ?_)))
  refine lS 17 _ rfl (fun c2 => ?_) (fun c2 => ?_)
  ·refine lP 11 tK rfl (q1 (cI rfl (q0 (lP 1 tK rfl (q1 (cR (xB (xR (xR (xB (xR (x1_ rfl rfl ?_))))))))))))
   first
   | exact ⟨by rw [word_all (by omega) hall]; congr 1; rw [Bool.eq_iff_iff]; simp only [ne_eq, decide_eq_true_eq]; omega, rfl⟩
   | exact ⟨by rw [word_no (i := i) (by omega) (by rw [word_kind hd]; simp_all)], rfl⟩
  refine lP 4 tK rfl ?_
  refine lS 21 _ rfl (fun c3 => ?_) (fun c3 => ?_)
  ·refine lP 7 tK rfl (q1 (cI rfl (q0 (lP 1 tK rfl (q1 (cR (xB (xR (xR (xB (xR (x1_ rfl rfl ?_))))))))))))
   first
   | exact ⟨by rw [word_all (by omega) hall]; congr 1; rw [Bool.eq_iff_iff]; simp only [ne_eq, decide_eq_true_eq]; omega, rfl⟩
   | exact ⟨by rw [word_no (i := i) (by omega) (by rw [word_kind hd]; simp_all)], rfl⟩
  refine lP 3 tK rfl ?_
  refine lS 24 _ rfl (fun c4 => ?_) (fun c4 => ?_)
  ·refine lP 4 tK rfl (q1 ?_)
   refine c_ifN _ rfl (fun c5 => ?_) (fun c5 => ?_)
   ·refine q0 (lP 1 tK rfl (q1 (cR (xB (xR (xR (xB (xR (x1_ rfl rfl ?_)))))))))
    first
    | exact ⟨by rw [word_all (by omega) hall]; congr 1; rw [Bool.eq_iff_iff]; simp only [ne_eq, decide_eq_true_eq]; omega, rfl⟩
    | exact ⟨by rw [word_no (i := i) (by omega) (by rw [word_kind hd]; simp_all)], rfl⟩
   refine cK (x_blk (xS (cG (lP 1 tK rfl ?_))))
   refine lC (o_ai rfl rfl rfl (by omega) rfl rfl ?_)
   refine lP 1 tK rfl (lN ?_)
   exact x_round (i + 1) (s2 rfl rfl) ⟨rfl, by omega, word_step hall (by rw [word_kind hd]; simp_all)⟩ (by omega)
  refine lP 4 tK rfl (q1 (c_ifF rfl (cK (x_blk (xS (cG (lP 1 tK rfl ?_)))))))
  refine lC (o_ai rfl rfl rfl (by omega) rfl rfl ?_)
  refine lP 1 tK rfl (lN ?_)
  exact x_round (i + 1) (s2 rfl rfl) ⟨rfl, by omega, word_step hall (by rw [word_kind hd]; simp_all)⟩ (by omega)
 refine c_exit (xE (xE (x_blkE (xS (q0 (lP 4 tK rfl (q1 (cR (x1_ rfl rfl ?_)))))))))
 first
 | exact ⟨by rw [word_all (by omega) hall]; congr 1; rw [Bool.eq_iff_iff]; simp only [ne_eq, decide_eq_true_eq]; omega, rfl⟩
 | exact ⟨by rw [word_no (i := i) (by omega) (by rw [word_kind hd]; simp_all)], rfl⟩
theorem rown_spec (M : Nat → Prop) (w : World) (Lw : Low M w) :
  Calls Tryz.prog 67 #[] w (Ret fun r w' => (∃ a b, r = .tuple #[a, b] ∧ Sl M w' a ownW) ∧ Ext w w') := by
 have hE := Below.refl w.heap.size w
 have hB := lR w.heap.size
 refine cN (n := 4) Tryz.func67 rfl rfl rfl ?_
 refine q0 (lP 2 tK rfl (q1 (q0 ?_)))
 refine lC (o_bs tK rfl rfl rfl rfl rfl rfl rfl (by decide) rfl rfl rfl ?_)
 intro bw1 w1 qbw1 ew1 hbw1
 have nbw1 := nO Lw qbw1
 replace hE := ew1.bl hE hB
 replace Lw := Lw.Y ew1
 replace hB := ew1.z hB
 have hl : Sl M w1 (.slice (some ⟨bw1, 0, none⟩) 15 15) ownW := lit_sl (us := ownW.map fun s => .string s) (l := ownW) hbw1 nbw1 (by simp only [ownW, List.map_cons, List.map_nil]; exact ⟨⟨rfl, by decide⟩, ⟨⟨rfl, by decide⟩, ⟨⟨rfl, by decide⟩, ⟨⟨rfl, by decide⟩, ⟨⟨rfl, by decide⟩, ⟨⟨rfl, by decide⟩, ⟨⟨rfl, by decide⟩, ⟨⟨rfl, by decide⟩, ⟨⟨rfl, by decide⟩, ⟨⟨rfl, by decide⟩, ⟨⟨rfl, by decide⟩, ⟨⟨rfl, by decide⟩, ⟨⟨rfl, by decide⟩, ⟨⟨rfl, by decide⟩, ⟨⟨rfl, by decide⟩, trivial⟩⟩⟩⟩⟩⟩⟩⟩⟩⟩⟩⟩⟩⟩⟩) (by simp [ownW])
 refine lC (o_bs tK rfl rfl rfl rfl rfl rfl rfl (by decide) rfl rfl rfl ?_)
 intro bw2 w2 qbw2 ew2 hbw2
 have nbw2 := nO Lw qbw2
 replace hE := ew2.bl hE hB
 replace hl := hl.Y ew2
 replace Lw := Lw.Y ew2
 replace hB := ew2.z hB
 refine lP 2 tK rfl (q1 (cR (x_ret2 rfl rfl rfl ?_)))
 exact ⟨⟨_, _, rfl, hl⟩, hE⟩
theorem risWord_spec (M : Nat → Prop) (w : World) (s : ByteArray) (hs : s.size < 140737488355328) (Lw : Low M w) :
  Calls Tryz.prog 49 #[.string s] w (Ret fun r w' => r = .bool (isWordB s) ∧ Ext w w') := by
 have hE := Below.refl w.heap.size w
 have hB := lR w.heap.size
 refine cN (n := 22) Tryz.func49 rfl rfl rfl ?_
 refine q0 (lP 1 tK rfl (q1 (q0 ?_)))
 refine lC (oK fo67 rfl rfl rfl (rown_spec M _ Lw) ?_)
 rintro _ w1 ⟨⟨va, vb, rfl, hl⟩, ew1⟩
 replace hE := ew1.bl hE hB
 replace Lw := Lw.Y ew1
 replace hB := ew1.z hB
 refine lP 5 tK rfl (q1 (q0 (lP 1 tK rfl ?_)))
 refine lC (oK fo68 rfl rfl rfl (rwordly_spec _ s hs) ?_)
 rintro _ _ ⟨rfl, rfl⟩
 refine lP 1 tK rfl ?_
 refine l_split 11 _ rfl (fun c1 => ?_) (fun c1 => ?_)
 ·refine lP 2 tK rfl ?_
  refine lC (oK fo69 rfl rfl rfl (show Calls _ _ _ _ (Ret fun r w' => r = .bool (ownB s) ∧ w1 = w') from in2_spec M _ _ ownW s hl) ?_)
  rintro _ _ ⟨rfl, rfl⟩
  refine lP 3 tK rfl ?_
  refine l_splitB 17 _ rfl (fun c2 => ?_) (fun c2 => ?_)
  ·refine lP 5 tK rfl (q1 (cR (x1_ rfl rfl ?_)))
   exact ⟨by unfold isWordB; by_cases h32 : s.size ≤ 32 <;> simp_all <;> omega, hE⟩
  refine lP 5 tK rfl (q1 (cR (x1_ rfl rfl ?_)))
  exact ⟨by unfold isWordB; by_cases h32 : s.size ≤ 32 <;> simp_all <;> omega, hE⟩
 refine lP 11 tK rfl (q1 (cR (x1_ rfl rfl ?_)))
 exact ⟨by unfold isWordB; by_cases h32 : s.size ≤ 32 <;> simp_all <;> omega, hE⟩
end Go.Proofs.YtpoahmeacjggfaaGreat
namespace Rw
open Go Go.RowKit
theorem beq_run {P : Program} {t : TypeId} (hd : P.underlying t = some .bool) (a b : Bool) (w : World) : (Op.equal t (.bool a) (.bool b)).run P w = .ok (a == b) w := by
  show (Op.equalIn (9999 + 1) t (.bool a) (.bool b)).run P w = _
  unfold Op.equalIn
  simp only [Sem.run_bind, run_underlying hd, Result.andThen_ok, Sem.run_pure]
section
variable {P : Program} {T : Tab} {n : Nat} {ops : Array Oper} {Q : Exit → Act → World → Prop} {G : Env} {w : World} {K : Env → World → Prop}
  {d ty : Nat} {pos : String} {af : Array Go.Edge} {g : Option (Nat × Bool)}
theorem o_beq {t t' : TypeId} {x y : Operand} {a b : Bool} {ti : TI} (hT : TabOk P T) (hx : Env.ev G x = some (.bool a)) (hy : Env.ev G y = some (.bool b)) (ht : T.get t = some ti) (htd : ti.d = .bool)
    (hg : gd ops G ⟨some d, .binOp .eql t x y t', ty, pos, af, g⟩ = some true) (hdn : Nat.blt d n = true) (h : K ((d, .bool (a == b)) :: G) w) : OW P n ops Q G w ⟨some d, .binOp .eql t x y t', ty, pos, af, g⟩ K := by
  have hd := (hT t ti ht).d
  rw [htd] at hd
  exact o_val hg rfl hdn (fun ac ha => by simp [execOp, ha.ev hx, ha.ev hy, eqGuard, binOp, beq_run hd]) h
theorem o_bne {t t' : TypeId} {x y : Operand} {a b : Bool} {ti : TI} (hT : TabOk P T) (hx : Env.ev G x = some (.bool a)) (hy : Env.ev G y = some (.bool b)) (ht : T.get t = some ti) (htd : ti.d = .bool)
    (hg : gd ops G ⟨some d, .binOp .neq t x y t', ty, pos, af, g⟩ = some true) (hdn : Nat.blt d n = true) (h : K ((d, .bool (!(a == b))) :: G) w) : OW P n ops Q G w ⟨some d, .binOp .neq t x y t', ty, pos, af, g⟩ K := by
  have hd := (hT t ti ht).d
  rw [htd] at hd
  exact o_val hg rfl hdn (fun ac ha => by simp [execOp, ha.ev hx, ha.ev hy, eqGuard, binOp, beq_run hd]) h
theorem o_conv {src dst : TypeId} {x : Operand} {k k0 k1 : IntKind} {z y : Int} {ti ts : TI} (hT : TabOk P T) (hx : Env.ev G x = some (.int k0 z)) (hs : T.get src = some ts) (hsd : ts.d = .int k1) (ht : T.get dst = some ti) (htd : ti.d = .int k) (hw : k.wrap z = y)
    (hg : gd ops G ⟨some d, .convert src dst x, ty, pos, af, g⟩ = some true) (hdn : Nat.blt d n = true) (h : K ((d, .int k y) :: G) w) : OW P n ops Q G w ⟨some d, .convert src dst x, ty, pos, af, g⟩ K := by
  have hd := (hT dst ti ht).d
  rw [htd] at hd
  have hd2 := (hT src ts hs).d
  rw [hsd] at hd2
  simp only [TD.Ok] at hd hd2
  exact o_val hg rfl hdn (fun ac ha => by simp [execOp, ha.ev hx, convert, run_underlying hd, run_underlying hd2, Conv.intToInt, hw]) h
theorem o_half {t t' : TypeId} {x : Operand} {k k2 : IntKind} {z y : Int} (hx : Env.ev G x = some (.int k z)) (hk : k.bits = 64) (hz : 0 ≤ z) (hy : z / 2 = y)
    (hg : gd ops G ⟨some d, .binOp .shr t x (.const (.int k2 1)) t', ty, pos, af, g⟩ = some true) (hdn : Nat.blt d n = true) (h : K ((d, .int k y) :: G) w) : OW P n ops Q G w ⟨some d, .binOp .shr t x (.const (.int k2 1)) t', ty, pos, af, g⟩ K := by
  refine o_val hg rfl hdn (fun ac ha => ?_) h
  have e : z.fdiv 2 = y := by rw [Int.fdiv_eq_ediv_of_nonneg _ (by omega)]; exact hy
  have hy2 : Env.ev G (.const (.int k2 1)) = some (.int k2 1) := rfl
  simp [execOp, ha.ev hx, ha.ev hy2, eqGuard, binOp, Op.shift, hk, e]
end
/-- Which kids an op has; none: it is none. -/
def kidsOf (op : Int) : Option ByteArray :=
  if op = 1 ∨ op = 2 ∨ op = 3 ∨ op = 7 ∨ op = 8 ∨ op = 9 ∨ op = 10 then some ⟨#[]⟩ else if op = 4 then some ⟨#[116, 116]⟩ else if op = 5 ∨ op = 6 then some ⟨#[114]⟩ else if op = 11 then some ⟨#[116, 114]⟩ else none
def all2 : List (UInt8 → Bool) → List UInt8 → Bool
  | f :: fs, c :: cs => f c && all2 fs cs
  | [], [] => true
  | _, _ => false
theorem all2_true : ∀ {fs : List (UInt8 → Bool)} {cs : List UInt8}, fs.length = cs.length → (∀ (j : Nat) f c, fs[j]? = some f → cs[j]? = some c → f c = true) → all2 fs cs = true
  | [], [], _, _ => rfl
  | f :: fs, c :: cs, h, k => by
    have h1 := k 0 f c rfl rfl
    have h2 := all2_true (fs := fs) (cs := cs) (by simpa using h) (fun j f c hf hc => k (j + 1) f c (by simpa using hf) (by simpa using hc))
    simp [all2, h1, h2]
  | [], _ :: _, h, _ => by simp at h
  | _ :: _, [], h, _ => by simp at h
theorem all2_false : ∀ {fs : List (UInt8 → Bool)} {cs : List UInt8} {j : Nat} {f : UInt8 → Bool} {c : UInt8}, fs[j]? = some f → cs[j]? = some c → f c = false → all2 fs cs = false
  | f :: fs, c :: cs, 0, _, _, hf, hc, h => by
    simp at hf hc; subst hf; subst hc
    simp [all2, h]
  | f :: fs, c :: cs, j + 1, _, _, hf, hc, h => by
    have := all2_false (fs := fs) (cs := cs) (j := j) (by simpa using hf) (by simpa using hc) h
    simp [all2, this]
  | [], _, _, _, _, hf, _, _ => by simp at hf
  | _ :: _, [], _, _, _, _, hc, _ => by simp at hc
theorem all2_len : ∀ {fs : List (UInt8 → Bool)} {cs : List UInt8}, fs.length ≠ cs.length → all2 fs cs = false
  | [], [], h => absurd rfl h
  | f :: fs, c :: cs, h => by
    have := all2_len (fs := fs) (cs := cs) (by simpa using h)
    simp [all2, this]
  | [], _ :: _, _ => rfl
  | _ :: _, [], _ => rfl
/-- A part's own: its name, its number. -/
def headOk (op : Int) (name : ByteArray) (n : Int) : Bool :=
  (if op = 11 then isWordB name else decide (name = ⟨#[]⟩)) && (decide (0 ≤ n) && (decide (op = 7) || (decide (op = 10) || decide (n = 0))))
/-- A type (t) or a row (r), its variables apart? -/
def shapeF : Ty → UInt8 → Bool
  | .mk op name n l => fun c => match kidsOf op with
    | none => false
    | some ks => (decide (8 ≤ op) == decide ((c.toNat : Int) = 114)) && (headOk op name n && all2 (l.map shapeF) ks.data.toList)
theorem shapeF_eq (t : Ty) (c : UInt8) : shapeF t c = match kidsOf t.op with
    | none => false
    | some ks => (decide (8 ≤ t.op) == decide ((c.toNat : Int) = 114)) && (headOk t.op t.name t.n && all2 (t.kids.map shapeF) ks.data.toList) := by
  cases t; rw [shapeF]; rfl
theorem shape_none {t : Ty} {c : UInt8} (h : kidsOf t.op = none) : shapeF t c = false := by rw [shapeF_eq, h]
theorem shape_some {t : Ty} {c : UInt8} {ks : ByteArray} (h : kidsOf t.op = some ks) : shapeF t c = ((decide (8 ≤ t.op) == decide ((c.toNat : Int) = 114)) && (headOk t.op t.name t.n && all2 (t.kids.map shapeF) ks.data.toList)) := by rw [shapeF_eq, h]
theorem shape_len {t : Ty} {c : UInt8} {ks : ByteArray} (h : kidsOf t.op = some ks) (hl : t.kids.length ≠ ks.size) : shapeF t c = false := by
  rw [shape_some h, all2_len (by simpa using hl)]; simp
theorem shape_sort {t : Ty} {c : UInt8} {ks : ByteArray} (h : kidsOf t.op = some ks) (hl : (decide (8 ≤ t.op) == decide ((c.toNat : Int) = 114)) = false) : shapeF t c = false := by
  rw [shape_some h, hl]; rfl
theorem shape_head {t : Ty} {c : UInt8} (hl : headOk t.op t.name t.n = false) : shapeF t c = false := by
  cases h : kidsOf t.op with
  | none => exact shape_none h
  | some ks => rw [shape_some h, hl]; simp
theorem shape_kid {t : Ty} {c d : UInt8} {ks : ByteArray} {i : Nat} (h : kidsOf t.op = some ks) (hi : i < t.kids.length) (hd : ks.data[i]? = some d) (hl : shapeF t.kids[i] d = false) : shapeF t c = false := by
  rw [shape_some h, all2_false (j := i) (f := shapeF t.kids[i]) (c := d) (by simp [hi]) (by simpa using hd) hl]; simp
theorem shape_yes {t : Ty} {c : UInt8} {ks : ByteArray} (h : kidsOf t.op = some ks) (hl : t.kids.length = ks.size) (h1 : (decide (8 ≤ t.op) == decide ((c.toNat : Int) = 114)) = true) (h2 : headOk t.op t.name t.n = true)
    (hall : ∀ (j : Nat) x d, t.kids[j]? = some x → ks.data[j]? = some d → shapeF x d = true) : shapeF t c = true := by
  rw [shape_some h, h1, h2, all2_true (by simpa using hl) (fun j f d hf hd => ?_)]
  · rfl
  · rw [List.getElem?_map] at hf
    cases hx : t.kids[j]? with
    | none => rw [hx] at hf; simp at hf
    | some x =>
      rw [hx] at hf
      simp at hf
      subst hf
      exact hall j x d hx (by simpa using hd)
/-- Is no number that of both sorts of variables? -/
def onceB (t : Ty) : Bool := (partsL t).all fun x => (partsL t).all fun y => !(decide (x.op = 7) && (decide (y.op = 10) && decide (x.n = y.n)))
theorem once_no {t : Ty} {i j : Nat} (hi : i < (partsL t).length) (hj : j < (partsL t).length) (h1 : (partsL t)[i].op = 7) (h2 : (partsL t)[j].op = 10) (h3 : (partsL t)[i].n = (partsL t)[j].n) : onceB t = false := by
  unfold onceB
  rw [List.all_eq_false]
  refine ⟨_, gM hi, ?_⟩
  have : (partsL t).all (fun y => !(decide ((partsL t)[i].op = 7) && (decide (y.op = 10) && decide ((partsL t)[i].n = y.n)))) = false := by
    rw [List.all_eq_false]
    exact ⟨_, gM hj, by simp [h1, h2, h3]⟩
  rw [this]; simp
theorem once_yes {t : Ty} (h : ∀ (a b : Nat) (x y : Ty), (partsL t)[a]? = some x → (partsL t)[b]? = some y → ¬ (x.op = 7 ∧ y.op = 10 ∧ x.n = y.n)) : onceB t = true := by
  unfold onceB
  rw [List.all_eq_true]
  intro x hx
  rw [List.all_eq_true]
  intro y hy
  obtain ⟨a, ha, rfl⟩ := List.getElem_of_mem hx
  obtain ⟨b, hb, rfl⟩ := List.getElem_of_mem hy
  have := h a b _ _ (gE ha) (gE hb)
  rw [Bool.not_eq_true', Bool.eq_false_iff]
  intro h0
  simp only [Bool.and_eq_true, decide_eq_true_eq] at h0
  exact absurd h0 this
theorem conf_row {l : List Ty} {i : Nat} (h : ∀ (a b : Nat) (x y : Ty), a < i → l[a]? = some x → l[b]? = some y → ¬ (x.op = 7 ∧ y.op = 10 ∧ x.n = y.n)) (hi : i < l.length)
    (hk : ∀ (b : Nat) (y : Ty), b < l.length → l[b]? = some y → ¬ (l[i].op = 7 ∧ y.op = 10 ∧ l[i].n = y.n)) : ∀ (a b : Nat) (x y : Ty), a < i + 1 → l[a]? = some x → l[b]? = some y → ¬ (x.op = 7 ∧ y.op = 10 ∧ x.n = y.n) := by
  intro a b x y ha hx hy
  by_cases e : a = i
  · subst e
    rw [gE hi] at hx
    cases hx
    exact hk b y (List.getElem?_eq_some_iff.1 hy).1 hy
  · exact h a b x y (by omega) hx hy
theorem conf_step {l : List Ty} {x : Ty} {k : Nat} (h : ∀ (b : Nat) (y : Ty), b < k → l[b]? = some y → ¬ (x.op = 7 ∧ y.op = 10 ∧ x.n = y.n)) (hk : k < l.length) (e : ¬ (x.op = 7 ∧ l[k].op = 10 ∧ x.n = l[k].n)) :
    ∀ (b : Nat) (y : Ty), b < k + 1 → l[b]? = some y → ¬ (x.op = 7 ∧ y.op = 10 ∧ x.n = y.n) := by
  intro b y hb hy
  by_cases e' : b = k
  · subst e'
    rw [gE hk] at hy
    cases hy; exact e
  · exact h b y (by omega) hy
def rightB (t : Ty) : Bool := shapeF t 116 && onceB t
def rowB (t : Ty) : Bool := shapeF t 114 && onceB t
end Rw
namespace Go.Proofs.YtpoahmeacjggfaaGreat
open Go Rw Go.RowKit
set_option maxRecDepth 4000
theorem kid_step {l : List Ty} {s : ByteArray} {i : Nat} {d : UInt8} (hi : i < l.length) (hd : s.data[i]? = some d) (h : ∀ (j : Nat) x d, j < i → l[j]? = some x → s.data[j]? = some d → shapeF x d = true) (e : shapeF l[i] d = true) :
  ∀ (j : Nat) x d, j < i + 1 → l[j]? = some x → s.data[j]? = some d → shapeF x d = true := by
 intro j x d' hj hx hd'
 by_cases he : j = i
 ·subst he
  rw [gE hi] at hx
  rw [hd] at hd'
  cases hx; cases hd'; exact e
 ·exact h j x d' (by omega) hx hd'
theorem kids_spec (w : World) (op : Int) :
  Calls Tryz.prog 90 #[.int .u8 op] w (Ret fun r w' => (∃ b s, r = .tuple #[.string s, .bool b] ∧ kidsOf op = if b then some s else none) ∧ w = w') := by
 refine cN (n := 20) Tryz.func90 rfl rfl rfl ?_
 refine q0 (lP 2 tK rfl (q1 (cS (q0 (lP 1 tK rfl (q1 (cB (cS (q0 (lP 2 tK rfl (q1 ?_)))))))))))
 refine c_splitP 5 _ rfl (fun c1 => cI rfl ?_) (fun c1 => c_ifF rfl ?_)
 ·refine cK (xS (cI rfl (q0 (lP 2 tK rfl (q1 (cR (xB (xR (x_ret2 rfl rfl rfl ?_)))))))))
  exact ⟨⟨_, _, rfl, by simp [kidsOf, *]⟩, rfl⟩
 refine q0 (lP 2 tK rfl (q1 ?_))
 refine c_splitP 5 _ rfl (fun c2 => cI rfl ?_) (fun c2 => c_ifF rfl ?_)
 ·refine cK (xS (cI rfl (q0 (lP 2 tK rfl (q1 (cR (xB (xR (x_ret2 rfl rfl rfl ?_)))))))))
  exact ⟨⟨_, _, rfl, by simp [kidsOf, *]⟩, rfl⟩
 refine q0 (lP 2 tK rfl (q1 ?_))
 refine c_splitP 5 _ rfl (fun c3 => cI rfl ?_) (fun c3 => c_ifF rfl ?_)
 ·refine cK (xS (cI rfl (q0 (lP 2 tK rfl (q1 (cR (xB (xR (x_ret2 rfl rfl rfl ?_)))))))))
  exact ⟨⟨_, _, rfl, by simp [kidsOf, *]⟩, rfl⟩
 refine q0 (lP 2 tK rfl (q1 ?_))
 refine c_splitP 5 _ rfl (fun c4 => cI rfl ?_) (fun c4 => c_ifF rfl ?_)
 ·refine cK (xS (cI rfl (q0 (lP 2 tK rfl (q1 (cR (xB (xR (x_ret2 rfl rfl rfl ?_)))))))))
  exact ⟨⟨_, _, rfl, by simp [kidsOf, *]⟩, rfl⟩
 refine q0 (lP 2 tK rfl (q1 ?_))
 refine c_splitP 5 _ rfl (fun c5 => cI rfl ?_) (fun c5 => c_ifF rfl ?_)
 ·refine cK (xS (cI rfl (q0 (lP 2 tK rfl (q1 (cR (xB (xR (x_ret2 rfl rfl rfl ?_)))))))))
  exact ⟨⟨_, _, rfl, by simp [kidsOf, *]⟩, rfl⟩
 refine q0 (lP 2 tK rfl (q1 ?_))
 refine c_splitP 5 _ rfl (fun c6 => cI rfl ?_) (fun c6 => c_ifF rfl ?_)
 ·refine cK (xS (cI rfl (q0 (lP 2 tK rfl (q1 (cR (xB (xR (x_ret2 rfl rfl rfl ?_)))))))))
  exact ⟨⟨_, _, rfl, by simp [kidsOf, *]⟩, rfl⟩
 refine cG (lP 2 tK rfl (q1 ?_))
 refine c_splitP 5 _ rfl (fun c7 => cI rfl ?_) (fun c7 => c_ifF rfl ?_)
 ·refine q0 (lP 2 tK rfl (q1 (cR (xB (xR (x_ret2 rfl rfl rfl ?_))))))
  exact ⟨⟨_, _, rfl, by simp [kidsOf, *]⟩, rfl⟩
 refine q0 (lP 2 tK rfl (q1 ?_))
 refine cP _ rfl (fun c8 => ?_) (fun c8 => ?_)
 ·refine q0 (lP 2 tK rfl (q1 (cR (xB (xR (x_ret2 rfl rfl rfl ?_))))))
  exact ⟨⟨_, _, rfl, by simp [kidsOf, *]⟩, rfl⟩
 refine cS (q0 (lP 2 tK rfl (q1 ?_)))
 refine c_splitP 15 _ rfl (fun c9 => cI rfl ?_) (fun c9 => c_ifF rfl ?_)
 ·refine cK (xS (cI rfl (q0 (lP 2 tK rfl (q1 (cR (xB (xR (x_ret2 rfl rfl rfl ?_)))))))))
  exact ⟨⟨_, _, rfl, by simp [kidsOf, *]⟩, rfl⟩
 refine cG (lP 2 tK rfl (q1 ?_))
 refine c_splitP 15 _ rfl (fun c10 => cI rfl ?_) (fun c10 => c_ifF rfl ?_)
 ·refine q0 (lP 2 tK rfl (q1 (cR (xB (xR (x_ret2 rfl rfl rfl ?_))))))
  exact ⟨⟨_, _, rfl, by simp [kidsOf, *]⟩, rfl⟩
 refine q0 (lP 2 tK rfl (q1 ?_))
 refine cP _ rfl (fun c11 => ?_) (fun c11 => ?_)
 ·refine q0 (lP 2 tK rfl (q1 (cR (xB (xR (x_ret2 rfl rfl rfl ?_))))))
  exact ⟨⟨_, _, rfl, by simp [kidsOf, *]⟩, rfl⟩
 refine cK (x_blk (xS (q0 (lP 2 tK rfl (q1 (cR (x_ret2 rfl rfl rfl ?_)))))))
 exact ⟨⟨_, _, rfl, by simp [kidsOf, *]⟩, rfl⟩
theorem shape_spec : ∀ (t : Ty) (c : UInt8) (M : Nat → Prop) (w : World) (v : Value), Rep.R M w v t → Low M w → Calls Tryz.prog 70 #[v, .int .u8 c.toNat] w (Ret fun r w' => r = .bool (shapeF t c) ∧ Ext w w') := by
 refine Ty.ind fun t ih => ?_
 intro c M w v ht Lw
 have hE := Below.refl w.heap.size w
 have hB := lR w.heap.size
 obtain ⟨kv, rfl, op, nm, n64, hk⟩ := tO ht
 have hlt := hk.lt
 refine cN (n := 85) Tryz.func70 rfl rfl rfl ?_
 refine q0 ?_
 refine lC (o_box rfl rfl rfl ?_)
 intro b1 w1 hb_b1 ew1 h1
 replace h1 : Box _ b1 29 [.int .u8 t.op, .string t.name, .int .i64 t.n, kv] := h1
 replace h1 := h1.at (nO Lw hb_b1)
 replace hE := ew1.bl hE hB
 replace ht := Rep.Y ht ew1
 replace hk := hk.Y ew1
 replace Lw := Lw.Y ew1
 replace hB := ew1.z hB
 refine lP 1 tK rfl (q1 (q0 (lP 1 tK rfl ?_)))
 refine lC (oD tK (h1.cell 0 _ rfl) rfl rfl rfl rfl rfl ?_)
 refine lC (oK fo90 rfl rfl rfl (kids_spec _ t.op) ?_)
 rintro _ _ ⟨⟨bk, ks, rfl, hko⟩, rfl⟩
 refine lP 5 tK rfl (q1 (cS (q0 (lP 3 tK rfl ?_))))
 refine l_splitB 16 _ rfl (fun c1 => ?_) (fun c1 => ?_)
 ·refine lP 15 tK rfl (q1 (cI rfl (q0 (lP 1 tK rfl (q1 (cR (xR (x1_ rfl rfl ?_))))))))
  obtain rfl : bk = false := by simpa using c1
  replace hko : kidsOf t.op = none := hko
  exact ⟨by rw [shape_none hko], hE⟩
 refine lP 1 tK rfl ?_
 refine lC (oD tK (h1.cell 0 _ rfl) rfl rfl rfl rfl rfl ?_)
 refine lP 3 tK rfl ?_
 refine lC (o_bne tK rfl rfl rfl rfl rfl rfl ?_)
 refine lP 2 tK rfl ?_
 refine l_split 24 _ rfl (fun c2 => ?_) (fun c2 => ?_)
 ·refine lP 7 tK rfl (q1 (cI rfl (q0 (lP 1 tK rfl (q1 (cR (xR (x1_ rfl rfl ?_))))))))
  obtain rfl : bk = true := by simpa using c1
  replace hko : kidsOf t.op = some ks := hko
  exact ⟨by rw [shape_sort hko (by simpa using c2)], hE⟩
 refine lP 1 tK rfl ?_
 refine lC (oD tK (h1.cell 3 _ rfl) rfl rfl rfl rfl rfl ?_)
 refine lC (o_len tK hk rfl rfl rfl rfl rfl ?_)
 refine lP 4 tK rfl (q1 ?_)
 refine c_ifN _ rfl (fun c3 => ?_) (fun c3 => ?_)
 ·refine q0 (lP 1 tK rfl (q1 (cR (xR (x1_ rfl rfl ?_)))))
  obtain rfl : bk = true := by simpa using c1
  replace hko : kidsOf t.op = some ks := hko
  exact ⟨by rw [shape_len hko (by omega)], hE⟩
 refine cK (xS (cS (q0 (lP 1 tK rfl ?_))))
 refine lC (oD tK (h1.cell 0 _ rfl) rfl rfl rfl rfl rfl ?_)
 refine lP 2 tK rfl ?_
 refine lS 35 _ rfl (fun c4 => ?_) (fun c4 => ?_)
 ·refine lP 1 tK rfl ?_
  refine lC (oD tK (h1.cell 1 _ rfl) rfl rfl rfl rfl rfl ?_)
  refine lC (oK fo49 rfl rfl rfl (risWord_spec M _ t.name nm Lw) ?_)
  rintro _ w2 ⟨rfl, ew2⟩
  replace hE := ew2.bl hE hB
  replace ht := Rep.Y ht ew2
  replace hk := hk.Y ew2
  replace h1 := h1.Y ew2
  replace Lw := Lw.Y ew2
  replace hB := ew2.z hB
  refine lP 3 tK rfl ?_
  refine l_splitB 41 _ rfl (fun c5 => ?_) (fun c5 => ?_)
  ·refine lP 9 tK rfl (q1 (cI rfl (q0 (lP 1 tK rfl (q1 (cR (xR (x1_ rfl rfl ?_))))))))
   exact ⟨by rw [shape_head (by unfold headOk; simp_all <;> omega)], hE⟩
  refine lP 1 tK rfl ?_
  refine lC (oD tK (h1.cell 0 _ rfl) rfl rfl rfl rfl rfl ?_)
  refine lP 2 tK rfl ?_
  refine l_splitN 45 _ rfl (fun c6 => ?_) (fun c6 => ?_)
  ·refine lP 1 tK rfl ?_
   refine lC (oD tK (h1.cell 1 _ rfl) rfl rfl rfl rfl rfl ?_)
   refine lP 3 tK rfl (q1 ?_)
   refine c_ifN _ rfl (fun c7 => ?_) (fun c7 => ?_)
   ·refine q0 (lP 1 tK rfl (q1 (cR (xR (x1_ rfl rfl ?_)))))
    exact ⟨by rw [shape_head (by unfold headOk; simp_all <;> omega)], hE⟩
   refine cK (xS (cS (q0 (lP 1 tK rfl ?_))))
   refine lC (oD tK (h1.cell 2 _ rfl) rfl rfl rfl rfl rfl ?_)
   refine lP 2 tK rfl ?_
   refine lS 54 _ rfl (fun c8 => ?_) (fun c8 => ?_)
   ·refine lP 14 tK rfl (q1 (cI rfl (q0 (lP 1 tK rfl (q1 (cR (xR (x1_ rfl rfl ?_))))))))
    exact ⟨by rw [shape_head (by unfold headOk; simp_all <;> omega)], hE⟩
   refine lP 1 tK rfl ?_
   refine lC (oD tK (h1.cell 0 _ rfl) rfl rfl rfl rfl rfl ?_)
   refine lP 2 tK rfl ?_
   refine l_splitN 58 _ rfl (fun c9 => ?_) (fun c9 => ?_)
   ·refine lP 1 tK rfl ?_
    refine lC (oD tK (h1.cell 0 _ rfl) rfl rfl rfl rfl rfl ?_)
    refine lP 3 tK rfl ?_
    refine l_splitN 63 _ rfl (fun c10 => ?_) (fun c10 => ?_)
    ·refine lP 1 tK rfl ?_
     refine lC (oD tK (h1.cell 2 _ rfl) rfl rfl rfl rfl rfl ?_)
     refine lP 3 tK rfl (q1 ?_)
     refine c_ifN _ rfl (fun c11 => ?_) (fun c11 => ?_)
     ·refine q0 (lP 1 tK rfl (q1 (cR (xR (x1_ rfl rfl ?_)))))
      exact ⟨by rw [shape_head (by unfold headOk; simp_all <;> omega)], hE⟩
     refine cK (xS (cS (q0 (lP 1 tK rfl (q1 (cB ?_))))))
     obtain rfl : bk = true := by simpa using c1
     replace hko : kidsOf t.op = some ks := hko
     have hll : t.kids.length = ks.size := by omega
     have hsort : (decide (8 ≤ t.op) == decide ((c.toNat : Int) = 114)) = true := by simpa using c2
     have hhead : headOk t.op t.name t.n = true := by unfold headOk; simp_all <;> omega
     refine c_loop (X := Nat) (fun i => [(2, .pointer (some ⟨b1, 0, none⟩)), (5, .string ks), (7, .int .i64 (i : Nat))]) (fun i w' => i ≤ t.kids.length ∧ (∀ (j : Nat) x d, j < i → t.kids[j]? = some x → ks.data[j]? = some d → shapeF x d = true) ∧ At M w' b1 0 [.int .u8 t.op, .string t.name, .int .i64 t.n, kv] ∧ Sl M w' kv t.kids ∧ Low M w' ∧ Below w.heap.size w w' ∧ w.heap.size ≤ w'.heap.size) (fun i => t.kids.length - i) (0) (s3 rfl rfl rfl) ?_ ?_
     ·exact ⟨Nat.zero_le _, fun j x d hj => absurd hj (Nat.not_lt_zero _), h1, hk, Lw, hE, hB⟩
     rintro i w3 ⟨hi, hall, h1, hk, Lw, hE, hB⟩
     refine cS (q0 (lP 4 tK rfl (q1 ?_)))
     refine cP _ rfl (fun c12 => ?_) (fun c12 => ?_)
     ·refine cK (xS (cS (cB (cS ?_))))
      refine a_beg Ext rfl ?_
      intro w4 ew4
      replace hE := ew4.bl hE hB
      replace h1 := h1.Y ew4
      replace hk := hk.Y ew4
      replace Lw := Lw.Y ew4
      replace hB := ew4.z hB
      have hS : Ext w4 w4 := ext_refl _
      have D_h1 := h1
      have D_hk := hk
      refine a_p 0 tK rfl rfl rfl rfl (by kernel_rfl) i3 hS ?_
      refine a_ld 1 tK (fun _ hs => (D_h1.Y hs).cell 3 _ rfl) rfl rfl rfl rfl rfl rfl (by kernel_rfl) i3 hS ?_
      refine a_p 2 tK rfl rfl rfl rfl (by kernel_rfl) i3 hS ?_
      have hik : i < t.kids.length := by omega
      have hd : ks.data[i]? = some (ks.data[i]'(by have := size_data ks; omega)) := Array.getElem?_eq_getElem _
      generalize hcc : (ks.data[i]'(by have := size_data ks; omega)) = dd at hd
      refine a_ixS 3 tK D_hk (gE hik) rfl rfl rfl rfl rfl rfl rfl rfl rfl rfl (by kernel_rfl) i4 hS ?_
      intro ebx eox eux hyx hX
      obtain ⟨kvx, rfl, opx, nmx, n64x, hkx⟩ := tO hyx
      replace hX : At M w4 ebx eox [.int .u8 t.kids[i].op, .string t.kids[i].name, .int .i64 t.kids[i].n, kvx] := hX
      refine a_lds 4 tK (fun _ hs j v hv => (hX.Y hs).cell j v hv) rfl rfl rfl rfl rfl rfl rfl (by kernel_rfl) i3 hS ?_
      refine a_p 5 tK rfl rfl rfl rfl (by kernel_rfl) i3 hS ?_
      refine a_p 6 tK rfl rfl rfl rfl (by kernel_rfl) i3 hS ?_
      refine a_si 7 tK hd rfl rfl rfl rfl rfl rfl rfl rfl (by kernel_rfl) i3 hS ?_
      refine a_bar 8 rfl (by kernel_rfl) (by kernel_rfl) (oK fo70 rfl rfl rfl (ih _ (gM hik) dd _ _ _ hyx Lw) ?_)
      rintro _ w5 ⟨rfl, ew5⟩
      replace hS := hS.then ew5
      replace hE := ew5.bl hE hB
      replace h1 := h1.Y ew5
      replace hk := hk.Y ew5
      replace hyx := Rep.Y hyx ew5
      replace hkx := hkx.Y ew5
      replace hX := hX.Y ew5
      replace Lw := Lw.Y ew5
      replace hB := ew5.z hB
      refine a_p 9 tK rfl rfl rfl rfl (by kernel_rfl) i3 hS ?_
      refine a_end (by kernel_rfl) ?_
      refine xS ?_
      refine c_ifB _ rfl (fun c13 => ?_) (fun c13 => ?_)
      ·refine q0 (lP 1 tK rfl (q1 (cR (xB (xR (xR (xB (xR (x1_ rfl rfl ?_)))))))))
       exact ⟨by rw [shape_kid hko hik hd c13], hE⟩
      refine cK (x_blk (xS (cG (lP 1 tK rfl ?_))))
      refine lC (o_ai rfl rfl rfl (by omega) rfl rfl ?_)
      refine lP 1 tK rfl (lN ?_)
      exact x_round (i + 1) (s3 rfl rfl rfl) ⟨by omega, kid_step hik hd hall c13, h1, hk, Lw, hE, hB⟩ (by omega)
     refine c_exit (xE (xE (x_blkE (xS (q0 (lP 1 tK rfl (q1 (cR (x1_ rfl rfl ?_)))))))))
     exact ⟨by rw [shape_yes hko hll hsort hhead (fun j x d hx hd => hall j x d (by have := (List.getElem?_eq_some_iff.1 hx).1; omega) hx hd)], hE⟩
    refine lP 5 tK rfl (q1 (c_ifF rfl (cK (xS (cS (q0 (lP 1 tK rfl (q1 (cB ?_)))))))))
    obtain rfl : bk = true := by simpa using c1
    replace hko : kidsOf t.op = some ks := hko
    have hll : t.kids.length = ks.size := by omega
    have hsort : (decide (8 ≤ t.op) == decide ((c.toNat : Int) = 114)) = true := by simpa using c2
    have hhead : headOk t.op t.name t.n = true := by unfold headOk; simp_all <;> omega
    refine c_loop (X := Nat) (fun i => [(2, .pointer (some ⟨b1, 0, none⟩)), (5, .string ks), (7, .int .i64 (i : Nat))]) (fun i w' => i ≤ t.kids.length ∧ (∀ (j : Nat) x d, j < i → t.kids[j]? = some x → ks.data[j]? = some d → shapeF x d = true) ∧ At M w' b1 0 [.int .u8 t.op, .string t.name, .int .i64 t.n, kv] ∧ Sl M w' kv t.kids ∧ Low M w' ∧ Below w.heap.size w w' ∧ w.heap.size ≤ w'.heap.size) (fun i => t.kids.length - i) (0) (s3 rfl rfl rfl) ?_ ?_
    ·exact ⟨Nat.zero_le _, fun j x d hj => absurd hj (Nat.not_lt_zero _), h1, hk, Lw, hE, hB⟩
    rintro i w6 ⟨hi, hall, h1, hk, Lw, hE, hB⟩
    refine cS (q0 (lP 4 tK rfl (q1 ?_)))
    refine cP _ rfl (fun c14 => ?_) (fun c14 => ?_)
    ·refine cK (xS (cS (cB (cS ?_))))
     refine a_beg Ext rfl ?_
     intro w7 ew7
     replace hE := ew7.bl hE hB
     replace h1 := h1.Y ew7
     replace hk := hk.Y ew7
     replace Lw := Lw.Y ew7
     replace hB := ew7.z hB
     have hS : Ext w7 w7 := ext_refl _
     have D_h1 := h1
     have D_hk := hk
     refine a_p 0 tK rfl rfl rfl rfl (by kernel_rfl) i3 hS ?_
     refine a_ld 1 tK (fun _ hs => (D_h1.Y hs).cell 3 _ rfl) rfl rfl rfl rfl rfl rfl (by kernel_rfl) i3 hS ?_
     refine a_p 2 tK rfl rfl rfl rfl (by kernel_rfl) i3 hS ?_
     have hik : i < t.kids.length := by omega
     have hd : ks.data[i]? = some (ks.data[i]'(by have := size_data ks; omega)) := Array.getElem?_eq_getElem _
     generalize hcc : (ks.data[i]'(by have := size_data ks; omega)) = dd at hd
     refine a_ixS 3 tK D_hk (gE hik) rfl rfl rfl rfl rfl rfl rfl rfl rfl rfl (by kernel_rfl) i4 hS ?_
     intro ebx eox eux hyx hX
     obtain ⟨kvx, rfl, opx, nmx, n64x, hkx⟩ := tO hyx
     replace hX : At M w7 ebx eox [.int .u8 t.kids[i].op, .string t.kids[i].name, .int .i64 t.kids[i].n, kvx] := hX
     refine a_lds 4 tK (fun _ hs j v hv => (hX.Y hs).cell j v hv) rfl rfl rfl rfl rfl rfl rfl (by kernel_rfl) i3 hS ?_
     refine a_p 5 tK rfl rfl rfl rfl (by kernel_rfl) i3 hS ?_
     refine a_p 6 tK rfl rfl rfl rfl (by kernel_rfl) i3 hS ?_
     refine a_si 7 tK hd rfl rfl rfl rfl rfl rfl rfl rfl (by kernel_rfl) i3 hS ?_
     refine a_bar 8 rfl (by kernel_rfl) (by kernel_rfl) (oK fo70 rfl rfl rfl (ih _ (gM hik) dd _ _ _ hyx Lw) ?_)
     rintro _ w8 ⟨rfl, ew8⟩
     replace hS := hS.then ew8
     replace hE := ew8.bl hE hB
     replace h1 := h1.Y ew8
     replace hk := hk.Y ew8
     replace hyx := Rep.Y hyx ew8
     replace hkx := hkx.Y ew8
     replace hX := hX.Y ew8
     replace Lw := Lw.Y ew8
     replace hB := ew8.z hB
     refine a_p 9 tK rfl rfl rfl rfl (by kernel_rfl) i3 hS ?_
     refine a_end (by kernel_rfl) ?_
     refine xS ?_
     refine c_ifB _ rfl (fun c15 => ?_) (fun c15 => ?_)
     ·refine q0 (lP 1 tK rfl (q1 (cR (xB (xR (xR (xB (xR (x1_ rfl rfl ?_)))))))))
      exact ⟨by rw [shape_kid hko hik hd c15], hE⟩
     refine cK (x_blk (xS (cG (lP 1 tK rfl ?_))))
     refine lC (o_ai rfl rfl rfl (by omega) rfl rfl ?_)
     refine lP 1 tK rfl (lN ?_)
     exact x_round (i + 1) (s3 rfl rfl rfl) ⟨by omega, kid_step hik hd hall c15, h1, hk, Lw, hE, hB⟩ (by omega)
    refine c_exit (xE (xE (x_blkE (xS (q0 (lP 1 tK rfl (q1 (cR (x1_ rfl rfl ?_)))))))))
    exact ⟨by rw [shape_yes hko hll hsort hhead (fun j x d hx hd => hall j x d (by have := (List.getElem?_eq_some_iff.1 hx).1; omega) hx hd)], hE⟩
   refine lP 10 tK rfl (q1 (c_ifF rfl (cK (xS (cS (q0 (lP 1 tK rfl (q1 (cB ?_)))))))))
   obtain rfl : bk = true := by simpa using c1
   replace hko : kidsOf t.op = some ks := hko
   have hll : t.kids.length = ks.size := by omega
   have hsort : (decide (8 ≤ t.op) == decide ((c.toNat : Int) = 114)) = true := by simpa using c2
   have hhead : headOk t.op t.name t.n = true := by unfold headOk; simp_all <;> omega
   refine c_loop (X := Nat) (fun i => [(2, .pointer (some ⟨b1, 0, none⟩)), (5, .string ks), (7, .int .i64 (i : Nat))]) (fun i w' => i ≤ t.kids.length ∧ (∀ (j : Nat) x d, j < i → t.kids[j]? = some x → ks.data[j]? = some d → shapeF x d = true) ∧ At M w' b1 0 [.int .u8 t.op, .string t.name, .int .i64 t.n, kv] ∧ Sl M w' kv t.kids ∧ Low M w' ∧ Below w.heap.size w w' ∧ w.heap.size ≤ w'.heap.size) (fun i => t.kids.length - i) (0) (s3 rfl rfl rfl) ?_ ?_
   ·exact ⟨Nat.zero_le _, fun j x d hj => absurd hj (Nat.not_lt_zero _), h1, hk, Lw, hE, hB⟩
   rintro i w9 ⟨hi, hall, h1, hk, Lw, hE, hB⟩
   refine cS (q0 (lP 4 tK rfl (q1 ?_)))
   refine cP _ rfl (fun c16 => ?_) (fun c16 => ?_)
   ·refine cK (xS (cS (cB (cS ?_))))
    refine a_beg Ext rfl ?_
    intro w10 ew10
    replace hE := ew10.bl hE hB
    replace h1 := h1.Y ew10
    replace hk := hk.Y ew10
    replace Lw := Lw.Y ew10
    replace hB := ew10.z hB
    have hS : Ext w10 w10 := ext_refl _
    have D_h1 := h1
    have D_hk := hk
    refine a_p 0 tK rfl rfl rfl rfl (by kernel_rfl) i3 hS ?_
    refine a_ld 1 tK (fun _ hs => (D_h1.Y hs).cell 3 _ rfl) rfl rfl rfl rfl rfl rfl (by kernel_rfl) i3 hS ?_
    refine a_p 2 tK rfl rfl rfl rfl (by kernel_rfl) i3 hS ?_
    have hik : i < t.kids.length := by omega
    have hd : ks.data[i]? = some (ks.data[i]'(by have := size_data ks; omega)) := Array.getElem?_eq_getElem _
    generalize hcc : (ks.data[i]'(by have := size_data ks; omega)) = dd at hd
    refine a_ixS 3 tK D_hk (gE hik) rfl rfl rfl rfl rfl rfl rfl rfl rfl rfl (by kernel_rfl) i4 hS ?_
    intro ebx eox eux hyx hX
    obtain ⟨kvx, rfl, opx, nmx, n64x, hkx⟩ := tO hyx
    replace hX : At M w10 ebx eox [.int .u8 t.kids[i].op, .string t.kids[i].name, .int .i64 t.kids[i].n, kvx] := hX
    refine a_lds 4 tK (fun _ hs j v hv => (hX.Y hs).cell j v hv) rfl rfl rfl rfl rfl rfl rfl (by kernel_rfl) i3 hS ?_
    refine a_p 5 tK rfl rfl rfl rfl (by kernel_rfl) i3 hS ?_
    refine a_p 6 tK rfl rfl rfl rfl (by kernel_rfl) i3 hS ?_
    refine a_si 7 tK hd rfl rfl rfl rfl rfl rfl rfl rfl (by kernel_rfl) i3 hS ?_
    refine a_bar 8 rfl (by kernel_rfl) (by kernel_rfl) (oK fo70 rfl rfl rfl (ih _ (gM hik) dd _ _ _ hyx Lw) ?_)
    rintro _ w11 ⟨rfl, ew11⟩
    replace hS := hS.then ew11
    replace hE := ew11.bl hE hB
    replace h1 := h1.Y ew11
    replace hk := hk.Y ew11
    replace hyx := Rep.Y hyx ew11
    replace hkx := hkx.Y ew11
    replace hX := hX.Y ew11
    replace Lw := Lw.Y ew11
    replace hB := ew11.z hB
    refine a_p 9 tK rfl rfl rfl rfl (by kernel_rfl) i3 hS ?_
    refine a_end (by kernel_rfl) ?_
    refine xS ?_
    refine c_ifB _ rfl (fun c17 => ?_) (fun c17 => ?_)
    ·refine q0 (lP 1 tK rfl (q1 (cR (xB (xR (xR (xB (xR (x1_ rfl rfl ?_)))))))))
     exact ⟨by rw [shape_kid hko hik hd c17], hE⟩
    refine cK (x_blk (xS (cG (lP 1 tK rfl ?_))))
    refine lC (o_ai rfl rfl rfl (by omega) rfl rfl ?_)
    refine lP 1 tK rfl (lN ?_)
    exact x_round (i + 1) (s3 rfl rfl rfl) ⟨by omega, kid_step hik hd hall c17, h1, hk, Lw, hE, hB⟩ (by omega)
   refine c_exit (xE (xE (x_blkE (xS (q0 (lP 1 tK rfl (q1 (cR (x1_ rfl rfl ?_)))))))))
   exact ⟨by rw [shape_yes hko hll hsort hhead (fun j x d hx hd => hall j x d (by have := (List.getElem?_eq_some_iff.1 hx).1; omega) hx hd)], hE⟩
  refine lP 5 tK rfl (q1 (c_ifF rfl (cK (xS (cS (q0 (lP 1 tK rfl ?_)))))))
  refine lC (oD tK (h1.cell 2 _ rfl) rfl rfl rfl rfl rfl ?_)
  refine lP 2 tK rfl ?_
  refine lS 54 _ rfl (fun c18 => ?_) (fun c18 => ?_)
  ·refine lP 14 tK rfl (q1 (cI rfl (q0 (lP 1 tK rfl (q1 (cR (xR (x1_ rfl rfl ?_))))))))
   exact ⟨by rw [shape_head (by unfold headOk; simp_all <;> omega)], hE⟩
  refine lP 1 tK rfl ?_
  refine lC (oD tK (h1.cell 0 _ rfl) rfl rfl rfl rfl rfl ?_)
  refine lP 2 tK rfl ?_
  refine l_splitN 58 _ rfl (fun c19 => ?_) (fun c19 => ?_)
  ·refine lP 1 tK rfl ?_
   refine lC (oD tK (h1.cell 0 _ rfl) rfl rfl rfl rfl rfl ?_)
   refine lP 3 tK rfl ?_
   refine l_splitN 63 _ rfl (fun c20 => ?_) (fun c20 => ?_)
   ·refine lP 1 tK rfl ?_
    refine lC (oD tK (h1.cell 2 _ rfl) rfl rfl rfl rfl rfl ?_)
    refine lP 3 tK rfl (q1 ?_)
    refine c_ifN _ rfl (fun c21 => ?_) (fun c21 => ?_)
    ·refine q0 (lP 1 tK rfl (q1 (cR (xR (x1_ rfl rfl ?_)))))
     exact ⟨by rw [shape_head (by unfold headOk; simp_all <;> omega)], hE⟩
    refine cK (xS (cS (q0 (lP 1 tK rfl (q1 (cB ?_))))))
    obtain rfl : bk = true := by simpa using c1
    replace hko : kidsOf t.op = some ks := hko
    have hll : t.kids.length = ks.size := by omega
    have hsort : (decide (8 ≤ t.op) == decide ((c.toNat : Int) = 114)) = true := by simpa using c2
    have hhead : headOk t.op t.name t.n = true := by unfold headOk; simp_all <;> omega
    refine c_loop (X := Nat) (fun i => [(2, .pointer (some ⟨b1, 0, none⟩)), (5, .string ks), (7, .int .i64 (i : Nat))]) (fun i w' => i ≤ t.kids.length ∧ (∀ (j : Nat) x d, j < i → t.kids[j]? = some x → ks.data[j]? = some d → shapeF x d = true) ∧ At M w' b1 0 [.int .u8 t.op, .string t.name, .int .i64 t.n, kv] ∧ Sl M w' kv t.kids ∧ Low M w' ∧ Below w.heap.size w w' ∧ w.heap.size ≤ w'.heap.size) (fun i => t.kids.length - i) (0) (s3 rfl rfl rfl) ?_ ?_
    ·exact ⟨Nat.zero_le _, fun j x d hj => absurd hj (Nat.not_lt_zero _), h1, hk, Lw, hE, hB⟩
    rintro i w12 ⟨hi, hall, h1, hk, Lw, hE, hB⟩
    refine cS (q0 (lP 4 tK rfl (q1 ?_)))
    refine cP _ rfl (fun c22 => ?_) (fun c22 => ?_)
    ·refine cK (xS (cS (cB (cS ?_))))
     refine a_beg Ext rfl ?_
     intro w13 ew13
     replace hE := ew13.bl hE hB
     replace h1 := h1.Y ew13
     replace hk := hk.Y ew13
     replace Lw := Lw.Y ew13
     replace hB := ew13.z hB
     have hS : Ext w13 w13 := ext_refl _
     have D_h1 := h1
     have D_hk := hk
     refine a_p 0 tK rfl rfl rfl rfl (by kernel_rfl) i3 hS ?_
     refine a_ld 1 tK (fun _ hs => (D_h1.Y hs).cell 3 _ rfl) rfl rfl rfl rfl rfl rfl (by kernel_rfl) i3 hS ?_
     refine a_p 2 tK rfl rfl rfl rfl (by kernel_rfl) i3 hS ?_
     have hik : i < t.kids.length := by omega
     have hd : ks.data[i]? = some (ks.data[i]'(by have := size_data ks; omega)) := Array.getElem?_eq_getElem _
     generalize hcc : (ks.data[i]'(by have := size_data ks; omega)) = dd at hd
     refine a_ixS 3 tK D_hk (gE hik) rfl rfl rfl rfl rfl rfl rfl rfl rfl rfl (by kernel_rfl) i4 hS ?_
     intro ebx eox eux hyx hX
     obtain ⟨kvx, rfl, opx, nmx, n64x, hkx⟩ := tO hyx
     replace hX : At M w13 ebx eox [.int .u8 t.kids[i].op, .string t.kids[i].name, .int .i64 t.kids[i].n, kvx] := hX
     refine a_lds 4 tK (fun _ hs j v hv => (hX.Y hs).cell j v hv) rfl rfl rfl rfl rfl rfl rfl (by kernel_rfl) i3 hS ?_
     refine a_p 5 tK rfl rfl rfl rfl (by kernel_rfl) i3 hS ?_
     refine a_p 6 tK rfl rfl rfl rfl (by kernel_rfl) i3 hS ?_
     refine a_si 7 tK hd rfl rfl rfl rfl rfl rfl rfl rfl (by kernel_rfl) i3 hS ?_
     refine a_bar 8 rfl (by kernel_rfl) (by kernel_rfl) (oK fo70 rfl rfl rfl (ih _ (gM hik) dd _ _ _ hyx Lw) ?_)
     rintro _ w14 ⟨rfl, ew14⟩
     replace hS := hS.then ew14
     replace hE := ew14.bl hE hB
     replace h1 := h1.Y ew14
     replace hk := hk.Y ew14
     replace hyx := Rep.Y hyx ew14
     replace hkx := hkx.Y ew14
     replace hX := hX.Y ew14
     replace Lw := Lw.Y ew14
     replace hB := ew14.z hB
     refine a_p 9 tK rfl rfl rfl rfl (by kernel_rfl) i3 hS ?_
     refine a_end (by kernel_rfl) ?_
     refine xS ?_
     refine c_ifB _ rfl (fun c23 => ?_) (fun c23 => ?_)
     ·refine q0 (lP 1 tK rfl (q1 (cR (xB (xR (xR (xB (xR (x1_ rfl rfl ?_)))))))))
      exact ⟨by rw [shape_kid hko hik hd c23], hE⟩
     refine cK (x_blk (xS (cG (lP 1 tK rfl ?_))))
     refine lC (o_ai rfl rfl rfl (by omega) rfl rfl ?_)
     refine lP 1 tK rfl (lN ?_)
     exact x_round (i + 1) (s3 rfl rfl rfl) ⟨by omega, kid_step hik hd hall c23, h1, hk, Lw, hE, hB⟩ (by omega)
    refine c_exit (xE (xE (x_blkE (xS (q0 (lP 1 tK rfl (q1 (cR (x1_ rfl rfl ?_)))))))))
    exact ⟨by rw [shape_yes hko hll hsort hhead (fun j x d hx hd => hall j x d (by have := (List.getElem?_eq_some_iff.1 hx).1; omega) hx hd)], hE⟩
   refine lP 5 tK rfl (q1 (c_ifF rfl (cK (xS (cS (q0 (lP 1 tK rfl (q1 (cB ?_)))))))))
   obtain rfl : bk = true := by simpa using c1
   replace hko : kidsOf t.op = some ks := hko
   have hll : t.kids.length = ks.size := by omega
   have hsort : (decide (8 ≤ t.op) == decide ((c.toNat : Int) = 114)) = true := by simpa using c2
   have hhead : headOk t.op t.name t.n = true := by unfold headOk; simp_all <;> omega
   refine c_loop (X := Nat) (fun i => [(2, .pointer (some ⟨b1, 0, none⟩)), (5, .string ks), (7, .int .i64 (i : Nat))]) (fun i w' => i ≤ t.kids.length ∧ (∀ (j : Nat) x d, j < i → t.kids[j]? = some x → ks.data[j]? = some d → shapeF x d = true) ∧ At M w' b1 0 [.int .u8 t.op, .string t.name, .int .i64 t.n, kv] ∧ Sl M w' kv t.kids ∧ Low M w' ∧ Below w.heap.size w w' ∧ w.heap.size ≤ w'.heap.size) (fun i => t.kids.length - i) (0) (s3 rfl rfl rfl) ?_ ?_
   ·exact ⟨Nat.zero_le _, fun j x d hj => absurd hj (Nat.not_lt_zero _), h1, hk, Lw, hE, hB⟩
   rintro i w15 ⟨hi, hall, h1, hk, Lw, hE, hB⟩
   refine cS (q0 (lP 4 tK rfl (q1 ?_)))
   refine cP _ rfl (fun c24 => ?_) (fun c24 => ?_)
   ·refine cK (xS (cS (cB (cS ?_))))
    refine a_beg Ext rfl ?_
    intro w16 ew16
    replace hE := ew16.bl hE hB
    replace h1 := h1.Y ew16
    replace hk := hk.Y ew16
    replace Lw := Lw.Y ew16
    replace hB := ew16.z hB
    have hS : Ext w16 w16 := ext_refl _
    have D_h1 := h1
    have D_hk := hk
    refine a_p 0 tK rfl rfl rfl rfl (by kernel_rfl) i3 hS ?_
    refine a_ld 1 tK (fun _ hs => (D_h1.Y hs).cell 3 _ rfl) rfl rfl rfl rfl rfl rfl (by kernel_rfl) i3 hS ?_
    refine a_p 2 tK rfl rfl rfl rfl (by kernel_rfl) i3 hS ?_
    have hik : i < t.kids.length := by omega
    have hd : ks.data[i]? = some (ks.data[i]'(by have := size_data ks; omega)) := Array.getElem?_eq_getElem _
    generalize hcc : (ks.data[i]'(by have := size_data ks; omega)) = dd at hd
    refine a_ixS 3 tK D_hk (gE hik) rfl rfl rfl rfl rfl rfl rfl rfl rfl rfl (by kernel_rfl) i4 hS ?_
    intro ebx eox eux hyx hX
    obtain ⟨kvx, rfl, opx, nmx, n64x, hkx⟩ := tO hyx
    replace hX : At M w16 ebx eox [.int .u8 t.kids[i].op, .string t.kids[i].name, .int .i64 t.kids[i].n, kvx] := hX
    refine a_lds 4 tK (fun _ hs j v hv => (hX.Y hs).cell j v hv) rfl rfl rfl rfl rfl rfl rfl (by kernel_rfl) i3 hS ?_
    refine a_p 5 tK rfl rfl rfl rfl (by kernel_rfl) i3 hS ?_
    refine a_p 6 tK rfl rfl rfl rfl (by kernel_rfl) i3 hS ?_
    refine a_si 7 tK hd rfl rfl rfl rfl rfl rfl rfl rfl (by kernel_rfl) i3 hS ?_
    refine a_bar 8 rfl (by kernel_rfl) (by kernel_rfl) (oK fo70 rfl rfl rfl (ih _ (gM hik) dd _ _ _ hyx Lw) ?_)
    rintro _ w17 ⟨rfl, ew17⟩
    replace hS := hS.then ew17
    replace hE := ew17.bl hE hB
    replace h1 := h1.Y ew17
    replace hk := hk.Y ew17
    replace hyx := Rep.Y hyx ew17
    replace hkx := hkx.Y ew17
    replace hX := hX.Y ew17
    replace Lw := Lw.Y ew17
    replace hB := ew17.z hB
    refine a_p 9 tK rfl rfl rfl rfl (by kernel_rfl) i3 hS ?_
    refine a_end (by kernel_rfl) ?_
    refine xS ?_
    refine c_ifB _ rfl (fun c25 => ?_) (fun c25 => ?_)
    ·refine q0 (lP 1 tK rfl (q1 (cR (xB (xR (xR (xB (xR (x1_ rfl rfl ?_)))))))))
     exact ⟨by rw [shape_kid hko hik hd c25], hE⟩
    refine cK (x_blk (xS (cG (lP 1 tK rfl ?_))))
    refine lC (o_ai rfl rfl rfl (by omega) rfl rfl ?_)
    refine lP 1 tK rfl (lN ?_)
    exact x_round (i + 1) (s3 rfl rfl rfl) ⟨by omega, kid_step hik hd hall c25, h1, hk, Lw, hE, hB⟩ (by omega)
   refine c_exit (xE (xE (x_blkE (xS (q0 (lP 1 tK rfl (q1 (cR (x1_ rfl rfl ?_)))))))))
   exact ⟨by rw [shape_yes hko hll hsort hhead (fun j x d hx hd => hall j x d (by have := (List.getElem?_eq_some_iff.1 hx).1; omega) hx hd)], hE⟩
  refine lP 10 tK rfl (q1 (c_ifF rfl (cK (xS (cS (q0 (lP 1 tK rfl (q1 (cB ?_)))))))))
  obtain rfl : bk = true := by simpa using c1
  replace hko : kidsOf t.op = some ks := hko
  have hll : t.kids.length = ks.size := by omega
  have hsort : (decide (8 ≤ t.op) == decide ((c.toNat : Int) = 114)) = true := by simpa using c2
  have hhead : headOk t.op t.name t.n = true := by unfold headOk; simp_all <;> omega
  refine c_loop (X := Nat) (fun i => [(2, .pointer (some ⟨b1, 0, none⟩)), (5, .string ks), (7, .int .i64 (i : Nat))]) (fun i w' => i ≤ t.kids.length ∧ (∀ (j : Nat) x d, j < i → t.kids[j]? = some x → ks.data[j]? = some d → shapeF x d = true) ∧ At M w' b1 0 [.int .u8 t.op, .string t.name, .int .i64 t.n, kv] ∧ Sl M w' kv t.kids ∧ Low M w' ∧ Below w.heap.size w w' ∧ w.heap.size ≤ w'.heap.size) (fun i => t.kids.length - i) (0) (s3 rfl rfl rfl) ?_ ?_
  ·exact ⟨Nat.zero_le _, fun j x d hj => absurd hj (Nat.not_lt_zero _), h1, hk, Lw, hE, hB⟩
  rintro i w18 ⟨hi, hall, h1, hk, Lw, hE, hB⟩
  refine cS (q0 (lP 4 tK rfl (q1 ?_)))
  refine cP _ rfl (fun c26 => ?_) (fun c26 => ?_)
  ·refine cK (xS (cS (cB (cS ?_))))
   refine a_beg Ext rfl ?_
   intro w19 ew19
   replace hE := ew19.bl hE hB
   replace h1 := h1.Y ew19
   replace hk := hk.Y ew19
   replace Lw := Lw.Y ew19
   replace hB := ew19.z hB
   have hS : Ext w19 w19 := ext_refl _
   have D_h1 := h1
   have D_hk := hk
   refine a_p 0 tK rfl rfl rfl rfl (by kernel_rfl) i3 hS ?_
   refine a_ld 1 tK (fun _ hs => (D_h1.Y hs).cell 3 _ rfl) rfl rfl rfl rfl rfl rfl (by kernel_rfl) i3 hS ?_
   refine a_p 2 tK rfl rfl rfl rfl (by kernel_rfl) i3 hS ?_
   have hik : i < t.kids.length := by omega
   have hd : ks.data[i]? = some (ks.data[i]'(by have := size_data ks; omega)) := Array.getElem?_eq_getElem _
   generalize hcc : (ks.data[i]'(by have := size_data ks; omega)) = dd at hd
   refine a_ixS 3 tK D_hk (gE hik) rfl rfl rfl rfl rfl rfl rfl rfl rfl rfl (by kernel_rfl) i4 hS ?_
   intro ebx eox eux hyx hX
   obtain ⟨kvx, rfl, opx, nmx, n64x, hkx⟩ := tO hyx
   replace hX : At M w19 ebx eox [.int .u8 t.kids[i].op, .string t.kids[i].name, .int .i64 t.kids[i].n, kvx] := hX
   refine a_lds 4 tK (fun _ hs j v hv => (hX.Y hs).cell j v hv) rfl rfl rfl rfl rfl rfl rfl (by kernel_rfl) i3 hS ?_
   refine a_p 5 tK rfl rfl rfl rfl (by kernel_rfl) i3 hS ?_
   refine a_p 6 tK rfl rfl rfl rfl (by kernel_rfl) i3 hS ?_
   refine a_si 7 tK hd rfl rfl rfl rfl rfl rfl rfl rfl (by kernel_rfl) i3 hS ?_
   refine a_bar 8 rfl (by kernel_rfl) (by kernel_rfl) (oK fo70 rfl rfl rfl (ih _ (gM hik) dd _ _ _ hyx Lw) ?_)
   rintro _ w20 ⟨rfl, ew20⟩
   replace hS := hS.then ew20
   replace hE := ew20.bl hE hB
   replace h1 := h1.Y ew20
   replace hk := hk.Y ew20
   replace hyx := Rep.Y hyx ew20
   replace hkx := hkx.Y ew20
   replace hX := hX.Y ew20
   replace Lw := Lw.Y ew20
   replace hB := ew20.z hB
   refine a_p 9 tK rfl rfl rfl rfl (by kernel_rfl) i3 hS ?_
   refine a_end (by kernel_rfl) ?_
   refine xS ?_
   refine c_ifB _ rfl (fun c27 => ?_) (fun c27 => ?_)
   ·refine q0 (lP 1 tK rfl (q1 (cR (xB (xR (xR (xB (xR (x1_ rfl rfl ?_)))))))))
    exact ⟨by rw [shape_kid hko hik hd c27], hE⟩
   refine cK (x_blk (xS (cG (lP 1 tK rfl ?_))))
   refine lC (o_ai rfl rfl rfl (by omega) rfl rfl ?_)
   refine lP 1 tK rfl (lN ?_)
   exact x_round (i + 1) (s3 rfl rfl rfl) ⟨by omega, kid_step hik hd hall c27, h1, hk, Lw, hE, hB⟩ (by omega)
  refine c_exit (xE (xE (x_blkE (xS (q0 (lP 1 tK rfl (q1 (cR (x1_ rfl rfl ?_)))))))))
  exact ⟨by rw [shape_yes hko hll hsort hhead (fun j x d hx hd => hall j x d (by have := (List.getElem?_eq_some_iff.1 hx).1; omega) hx hd)], hE⟩
 refine lP 7 tK rfl ?_
 refine lC (oD tK (h1.cell 0 _ rfl) rfl rfl rfl rfl rfl ?_)
 refine lP 2 tK rfl ?_
 refine l_splitN 45 _ rfl (fun c28 => ?_) (fun c28 => ?_)
 ·refine lP 1 tK rfl ?_
  refine lC (oD tK (h1.cell 1 _ rfl) rfl rfl rfl rfl rfl ?_)
  refine lP 3 tK rfl (q1 ?_)
  refine c_ifN _ rfl (fun c29 => ?_) (fun c29 => ?_)
  ·refine q0 (lP 1 tK rfl (q1 (cR (xR (x1_ rfl rfl ?_)))))
   exact ⟨by rw [shape_head (by unfold headOk; simp_all <;> omega)], hE⟩
  refine cK (xS (cS (q0 (lP 1 tK rfl ?_))))
  refine lC (oD tK (h1.cell 2 _ rfl) rfl rfl rfl rfl rfl ?_)
  refine lP 2 tK rfl ?_
  refine lS 54 _ rfl (fun c30 => ?_) (fun c30 => ?_)
  ·refine lP 14 tK rfl (q1 (cI rfl (q0 (lP 1 tK rfl (q1 (cR (xR (x1_ rfl rfl ?_))))))))
   exact ⟨by rw [shape_head (by unfold headOk; simp_all <;> omega)], hE⟩
  refine lP 1 tK rfl ?_
  refine lC (oD tK (h1.cell 0 _ rfl) rfl rfl rfl rfl rfl ?_)
  refine lP 2 tK rfl ?_
  refine l_splitN 58 _ rfl (fun c31 => ?_) (fun c31 => ?_)
  ·refine lP 1 tK rfl ?_
   refine lC (oD tK (h1.cell 0 _ rfl) rfl rfl rfl rfl rfl ?_)
   refine lP 3 tK rfl ?_
   refine l_splitN 63 _ rfl (fun c32 => ?_) (fun c32 => ?_)
   ·refine lP 1 tK rfl ?_
    refine lC (oD tK (h1.cell 2 _ rfl) rfl rfl rfl rfl rfl ?_)
    refine lP 3 tK rfl (q1 ?_)
    refine c_ifN _ rfl (fun c33 => ?_) (fun c33 => ?_)
    ·refine q0 (lP 1 tK rfl (q1 (cR (xR (x1_ rfl rfl ?_)))))
     exact ⟨by rw [shape_head (by unfold headOk; simp_all <;> omega)], hE⟩
    refine cK (xS (cS (q0 (lP 1 tK rfl (q1 (cB ?_))))))
    obtain rfl : bk = true := by simpa using c1
    replace hko : kidsOf t.op = some ks := hko
    have hll : t.kids.length = ks.size := by omega
    have hsort : (decide (8 ≤ t.op) == decide ((c.toNat : Int) = 114)) = true := by simpa using c2
    have hhead : headOk t.op t.name t.n = true := by unfold headOk; simp_all <;> omega
    refine c_loop (X := Nat) (fun i => [(2, .pointer (some ⟨b1, 0, none⟩)), (5, .string ks), (7, .int .i64 (i : Nat))]) (fun i w' => i ≤ t.kids.length ∧ (∀ (j : Nat) x d, j < i → t.kids[j]? = some x → ks.data[j]? = some d → shapeF x d = true) ∧ At M w' b1 0 [.int .u8 t.op, .string t.name, .int .i64 t.n, kv] ∧ Sl M w' kv t.kids ∧ Low M w' ∧ Below w.heap.size w w' ∧ w.heap.size ≤ w'.heap.size) (fun i => t.kids.length - i) (0) (s3 rfl rfl rfl) ?_ ?_
    ·exact ⟨Nat.zero_le _, fun j x d hj => absurd hj (Nat.not_lt_zero _), h1, hk, Lw, hE, hB⟩
    rintro i w21 ⟨hi, hall, h1, hk, Lw, hE, hB⟩
    refine cS (q0 (lP 4 tK rfl (q1 ?_)))
    refine cP _ rfl (fun c34 => ?_) (fun c34 => ?_)
    ·refine cK (xS (cS (cB (cS ?_))))
     refine a_beg Ext rfl ?_
     intro w22 ew22
     replace hE := ew22.bl hE hB
     replace h1 := h1.Y ew22
     replace hk := hk.Y ew22
     replace Lw := Lw.Y ew22
     replace hB := ew22.z hB
     have hS : Ext w22 w22 := ext_refl _
     have D_h1 := h1
     have D_hk := hk
     refine a_p 0 tK rfl rfl rfl rfl (by kernel_rfl) i3 hS ?_
     refine a_ld 1 tK (fun _ hs => (D_h1.Y hs).cell 3 _ rfl) rfl rfl rfl rfl rfl rfl (by kernel_rfl) i3 hS ?_
     refine a_p 2 tK rfl rfl rfl rfl (by kernel_rfl) i3 hS ?_
     have hik : i < t.kids.length := by omega
     have hd : ks.data[i]? = some (ks.data[i]'(by have := size_data ks; omega)) := Array.getElem?_eq_getElem _
     generalize hcc : (ks.data[i]'(by have := size_data ks; omega)) = dd at hd
     refine a_ixS 3 tK D_hk (gE hik) rfl rfl rfl rfl rfl rfl rfl rfl rfl rfl (by kernel_rfl) i4 hS ?_
     intro ebx eox eux hyx hX
     obtain ⟨kvx, rfl, opx, nmx, n64x, hkx⟩ := tO hyx
     replace hX : At M w22 ebx eox [.int .u8 t.kids[i].op, .string t.kids[i].name, .int .i64 t.kids[i].n, kvx] := hX
     refine a_lds 4 tK (fun _ hs j v hv => (hX.Y hs).cell j v hv) rfl rfl rfl rfl rfl rfl rfl (by kernel_rfl) i3 hS ?_
     refine a_p 5 tK rfl rfl rfl rfl (by kernel_rfl) i3 hS ?_
     refine a_p 6 tK rfl rfl rfl rfl (by kernel_rfl) i3 hS ?_
     refine a_si 7 tK hd rfl rfl rfl rfl rfl rfl rfl rfl (by kernel_rfl) i3 hS ?_
     refine a_bar 8 rfl (by kernel_rfl) (by kernel_rfl) (oK fo70 rfl rfl rfl (ih _ (gM hik) dd _ _ _ hyx Lw) ?_)
     rintro _ w23 ⟨rfl, ew23⟩
     replace hS := hS.then ew23
     replace hE := ew23.bl hE hB
     replace h1 := h1.Y ew23
     replace hk := hk.Y ew23
     replace hyx := Rep.Y hyx ew23
     replace hkx := hkx.Y ew23
     replace hX := hX.Y ew23
     replace Lw := Lw.Y ew23
     replace hB := ew23.z hB
     refine a_p 9 tK rfl rfl rfl rfl (by kernel_rfl) i3 hS ?_
     refine a_end (by kernel_rfl) ?_
     refine xS ?_
     refine c_ifB _ rfl (fun c35 => ?_) (fun c35 => ?_)
     ·refine q0 (lP 1 tK rfl (q1 (cR (xB (xR (xR (xB (xR (x1_ rfl rfl ?_)))))))))
      exact ⟨by rw [shape_kid hko hik hd c35], hE⟩
     refine cK (x_blk (xS (cG (lP 1 tK rfl ?_))))
     refine lC (o_ai rfl rfl rfl (by omega) rfl rfl ?_)
     refine lP 1 tK rfl (lN ?_)
     exact x_round (i + 1) (s3 rfl rfl rfl) ⟨by omega, kid_step hik hd hall c35, h1, hk, Lw, hE, hB⟩ (by omega)
    refine c_exit (xE (xE (x_blkE (xS (q0 (lP 1 tK rfl (q1 (cR (x1_ rfl rfl ?_)))))))))
    exact ⟨by rw [shape_yes hko hll hsort hhead (fun j x d hx hd => hall j x d (by have := (List.getElem?_eq_some_iff.1 hx).1; omega) hx hd)], hE⟩
   refine lP 5 tK rfl (q1 (c_ifF rfl (cK (xS (cS (q0 (lP 1 tK rfl (q1 (cB ?_)))))))))
   obtain rfl : bk = true := by simpa using c1
   replace hko : kidsOf t.op = some ks := hko
   have hll : t.kids.length = ks.size := by omega
   have hsort : (decide (8 ≤ t.op) == decide ((c.toNat : Int) = 114)) = true := by simpa using c2
   have hhead : headOk t.op t.name t.n = true := by unfold headOk; simp_all <;> omega
   refine c_loop (X := Nat) (fun i => [(2, .pointer (some ⟨b1, 0, none⟩)), (5, .string ks), (7, .int .i64 (i : Nat))]) (fun i w' => i ≤ t.kids.length ∧ (∀ (j : Nat) x d, j < i → t.kids[j]? = some x → ks.data[j]? = some d → shapeF x d = true) ∧ At M w' b1 0 [.int .u8 t.op, .string t.name, .int .i64 t.n, kv] ∧ Sl M w' kv t.kids ∧ Low M w' ∧ Below w.heap.size w w' ∧ w.heap.size ≤ w'.heap.size) (fun i => t.kids.length - i) (0) (s3 rfl rfl rfl) ?_ ?_
   ·exact ⟨Nat.zero_le _, fun j x d hj => absurd hj (Nat.not_lt_zero _), h1, hk, Lw, hE, hB⟩
   rintro i w24 ⟨hi, hall, h1, hk, Lw, hE, hB⟩
   refine cS (q0 (lP 4 tK rfl (q1 ?_)))
   refine cP _ rfl (fun c36 => ?_) (fun c36 => ?_)
   ·refine cK (xS (cS (cB (cS ?_))))
    refine a_beg Ext rfl ?_
    intro w25 ew25
    replace hE := ew25.bl hE hB
    replace h1 := h1.Y ew25
    replace hk := hk.Y ew25
    replace Lw := Lw.Y ew25
    replace hB := ew25.z hB
    have hS : Ext w25 w25 := ext_refl _
    have D_h1 := h1
    have D_hk := hk
    refine a_p 0 tK rfl rfl rfl rfl (by kernel_rfl) i3 hS ?_
    refine a_ld 1 tK (fun _ hs => (D_h1.Y hs).cell 3 _ rfl) rfl rfl rfl rfl rfl rfl (by kernel_rfl) i3 hS ?_
    refine a_p 2 tK rfl rfl rfl rfl (by kernel_rfl) i3 hS ?_
    have hik : i < t.kids.length := by omega
    have hd : ks.data[i]? = some (ks.data[i]'(by have := size_data ks; omega)) := Array.getElem?_eq_getElem _
    generalize hcc : (ks.data[i]'(by have := size_data ks; omega)) = dd at hd
    refine a_ixS 3 tK D_hk (gE hik) rfl rfl rfl rfl rfl rfl rfl rfl rfl rfl (by kernel_rfl) i4 hS ?_
    intro ebx eox eux hyx hX
    obtain ⟨kvx, rfl, opx, nmx, n64x, hkx⟩ := tO hyx
    replace hX : At M w25 ebx eox [.int .u8 t.kids[i].op, .string t.kids[i].name, .int .i64 t.kids[i].n, kvx] := hX
    refine a_lds 4 tK (fun _ hs j v hv => (hX.Y hs).cell j v hv) rfl rfl rfl rfl rfl rfl rfl (by kernel_rfl) i3 hS ?_
    refine a_p 5 tK rfl rfl rfl rfl (by kernel_rfl) i3 hS ?_
    refine a_p 6 tK rfl rfl rfl rfl (by kernel_rfl) i3 hS ?_
    refine a_si 7 tK hd rfl rfl rfl rfl rfl rfl rfl rfl (by kernel_rfl) i3 hS ?_
    refine a_bar 8 rfl (by kernel_rfl) (by kernel_rfl) (oK fo70 rfl rfl rfl (ih _ (gM hik) dd _ _ _ hyx Lw) ?_)
    rintro _ w26 ⟨rfl, ew26⟩
    replace hS := hS.then ew26
    replace hE := ew26.bl hE hB
    replace h1 := h1.Y ew26
    replace hk := hk.Y ew26
    replace hyx := Rep.Y hyx ew26
    replace hkx := hkx.Y ew26
    replace hX := hX.Y ew26
    replace Lw := Lw.Y ew26
    replace hB := ew26.z hB
    refine a_p 9 tK rfl rfl rfl rfl (by kernel_rfl) i3 hS ?_
    refine a_end (by kernel_rfl) ?_
    refine xS ?_
    refine c_ifB _ rfl (fun c37 => ?_) (fun c37 => ?_)
    ·refine q0 (lP 1 tK rfl (q1 (cR (xB (xR (xR (xB (xR (x1_ rfl rfl ?_)))))))))
     exact ⟨by rw [shape_kid hko hik hd c37], hE⟩
    refine cK (x_blk (xS (cG (lP 1 tK rfl ?_))))
    refine lC (o_ai rfl rfl rfl (by omega) rfl rfl ?_)
    refine lP 1 tK rfl (lN ?_)
    exact x_round (i + 1) (s3 rfl rfl rfl) ⟨by omega, kid_step hik hd hall c37, h1, hk, Lw, hE, hB⟩ (by omega)
   refine c_exit (xE (xE (x_blkE (xS (q0 (lP 1 tK rfl (q1 (cR (x1_ rfl rfl ?_)))))))))
   exact ⟨by rw [shape_yes hko hll hsort hhead (fun j x d hx hd => hall j x d (by have := (List.getElem?_eq_some_iff.1 hx).1; omega) hx hd)], hE⟩
  refine lP 10 tK rfl (q1 (c_ifF rfl (cK (xS (cS (q0 (lP 1 tK rfl (q1 (cB ?_)))))))))
  obtain rfl : bk = true := by simpa using c1
  replace hko : kidsOf t.op = some ks := hko
  have hll : t.kids.length = ks.size := by omega
  have hsort : (decide (8 ≤ t.op) == decide ((c.toNat : Int) = 114)) = true := by simpa using c2
  have hhead : headOk t.op t.name t.n = true := by unfold headOk; simp_all <;> omega
  refine c_loop (X := Nat) (fun i => [(2, .pointer (some ⟨b1, 0, none⟩)), (5, .string ks), (7, .int .i64 (i : Nat))]) (fun i w' => i ≤ t.kids.length ∧ (∀ (j : Nat) x d, j < i → t.kids[j]? = some x → ks.data[j]? = some d → shapeF x d = true) ∧ At M w' b1 0 [.int .u8 t.op, .string t.name, .int .i64 t.n, kv] ∧ Sl M w' kv t.kids ∧ Low M w' ∧ Below w.heap.size w w' ∧ w.heap.size ≤ w'.heap.size) (fun i => t.kids.length - i) (0) (s3 rfl rfl rfl) ?_ ?_
  ·exact ⟨Nat.zero_le _, fun j x d hj => absurd hj (Nat.not_lt_zero _), h1, hk, Lw, hE, hB⟩
  rintro i w27 ⟨hi, hall, h1, hk, Lw, hE, hB⟩
  refine cS (q0 (lP 4 tK rfl (q1 ?_)))
  refine cP _ rfl (fun c38 => ?_) (fun c38 => ?_)
  ·refine cK (xS (cS (cB (cS ?_))))
   refine a_beg Ext rfl ?_
   intro w28 ew28
   replace hE := ew28.bl hE hB
   replace h1 := h1.Y ew28
   replace hk := hk.Y ew28
   replace Lw := Lw.Y ew28
   replace hB := ew28.z hB
   have hS : Ext w28 w28 := ext_refl _
   have D_h1 := h1
   have D_hk := hk
   refine a_p 0 tK rfl rfl rfl rfl (by kernel_rfl) i3 hS ?_
   refine a_ld 1 tK (fun _ hs => (D_h1.Y hs).cell 3 _ rfl) rfl rfl rfl rfl rfl rfl (by kernel_rfl) i3 hS ?_
   refine a_p 2 tK rfl rfl rfl rfl (by kernel_rfl) i3 hS ?_
   have hik : i < t.kids.length := by omega
   have hd : ks.data[i]? = some (ks.data[i]'(by have := size_data ks; omega)) := Array.getElem?_eq_getElem _
   generalize hcc : (ks.data[i]'(by have := size_data ks; omega)) = dd at hd
   refine a_ixS 3 tK D_hk (gE hik) rfl rfl rfl rfl rfl rfl rfl rfl rfl rfl (by kernel_rfl) i4 hS ?_
   intro ebx eox eux hyx hX
   obtain ⟨kvx, rfl, opx, nmx, n64x, hkx⟩ := tO hyx
   replace hX : At M w28 ebx eox [.int .u8 t.kids[i].op, .string t.kids[i].name, .int .i64 t.kids[i].n, kvx] := hX
   refine a_lds 4 tK (fun _ hs j v hv => (hX.Y hs).cell j v hv) rfl rfl rfl rfl rfl rfl rfl (by kernel_rfl) i3 hS ?_
   refine a_p 5 tK rfl rfl rfl rfl (by kernel_rfl) i3 hS ?_
   refine a_p 6 tK rfl rfl rfl rfl (by kernel_rfl) i3 hS ?_
   refine a_si 7 tK hd rfl rfl rfl rfl rfl rfl rfl rfl (by kernel_rfl) i3 hS ?_
   refine a_bar 8 rfl (by kernel_rfl) (by kernel_rfl) (oK fo70 rfl rfl rfl (ih _ (gM hik) dd _ _ _ hyx Lw) ?_)
   rintro _ w29 ⟨rfl, ew29⟩
   replace hS := hS.then ew29
   replace hE := ew29.bl hE hB
   replace h1 := h1.Y ew29
   replace hk := hk.Y ew29
   replace hyx := Rep.Y hyx ew29
   replace hkx := hkx.Y ew29
   replace hX := hX.Y ew29
   replace Lw := Lw.Y ew29
   replace hB := ew29.z hB
   refine a_p 9 tK rfl rfl rfl rfl (by kernel_rfl) i3 hS ?_
   refine a_end (by kernel_rfl) ?_
   refine xS ?_
   refine c_ifB _ rfl (fun c39 => ?_) (fun c39 => ?_)
   ·refine q0 (lP 1 tK rfl (q1 (cR (xB (xR (xR (xB (xR (x1_ rfl rfl ?_)))))))))
    exact ⟨by rw [shape_kid hko hik hd c39], hE⟩
   refine cK (x_blk (xS (cG (lP 1 tK rfl ?_))))
   refine lC (o_ai rfl rfl rfl (by omega) rfl rfl ?_)
   refine lP 1 tK rfl (lN ?_)
   exact x_round (i + 1) (s3 rfl rfl rfl) ⟨by omega, kid_step hik hd hall c39, h1, hk, Lw, hE, hB⟩ (by omega)
  refine c_exit (xE (xE (x_blkE (xS (q0 (lP 1 tK rfl (q1 (cR (x1_ rfl rfl ?_)))))))))
  exact ⟨by rw [shape_yes hko hll hsort hhead (fun j x d hx hd => hall j x d (by have := (List.getElem?_eq_some_iff.1 hx).1; omega) hx hd)], hE⟩
 refine lP 5 tK rfl (q1 (c_ifF rfl (cK (xS (cS (q0 (lP 1 tK rfl ?_)))))))
 refine lC (oD tK (h1.cell 2 _ rfl) rfl rfl rfl rfl rfl ?_)
 refine lP 2 tK rfl ?_
 refine lS 54 _ rfl (fun c40 => ?_) (fun c40 => ?_)
 ·refine lP 14 tK rfl (q1 (cI rfl (q0 (lP 1 tK rfl (q1 (cR (xR (x1_ rfl rfl ?_))))))))
  exact ⟨by rw [shape_head (by unfold headOk; simp_all <;> omega)], hE⟩
 refine lP 1 tK rfl ?_
 refine lC (oD tK (h1.cell 0 _ rfl) rfl rfl rfl rfl rfl ?_)
 refine lP 2 tK rfl ?_
 refine l_splitN 58 _ rfl (fun c41 => ?_) (fun c41 => ?_)
 ·refine lP 1 tK rfl ?_
  refine lC (oD tK (h1.cell 0 _ rfl) rfl rfl rfl rfl rfl ?_)
  refine lP 3 tK rfl ?_
  refine l_splitN 63 _ rfl (fun c42 => ?_) (fun c42 => ?_)
  ·refine lP 1 tK rfl ?_
   refine lC (oD tK (h1.cell 2 _ rfl) rfl rfl rfl rfl rfl ?_)
   refine lP 3 tK rfl (q1 ?_)
   refine c_ifN _ rfl (fun c43 => ?_) (fun c43 => ?_)
   ·refine q0 (lP 1 tK rfl (q1 (cR (xR (x1_ rfl rfl ?_)))))
    exact ⟨by rw [shape_head (by unfold headOk; simp_all <;> omega)], hE⟩
   refine cK (xS (cS (q0 (lP 1 tK rfl (q1 (cB ?_))))))
   obtain rfl : bk = true := by simpa using c1
   replace hko : kidsOf t.op = some ks := hko
   have hll : t.kids.length = ks.size := by omega
   have hsort : (decide (8 ≤ t.op) == decide ((c.toNat : Int) = 114)) = true := by simpa using c2
   have hhead : headOk t.op t.name t.n = true := by unfold headOk; simp_all <;> omega
   refine c_loop (X := Nat) (fun i => [(2, .pointer (some ⟨b1, 0, none⟩)), (5, .string ks), (7, .int .i64 (i : Nat))]) (fun i w' => i ≤ t.kids.length ∧ (∀ (j : Nat) x d, j < i → t.kids[j]? = some x → ks.data[j]? = some d → shapeF x d = true) ∧ At M w' b1 0 [.int .u8 t.op, .string t.name, .int .i64 t.n, kv] ∧ Sl M w' kv t.kids ∧ Low M w' ∧ Below w.heap.size w w' ∧ w.heap.size ≤ w'.heap.size) (fun i => t.kids.length - i) (0) (s3 rfl rfl rfl) ?_ ?_
   ·exact ⟨Nat.zero_le _, fun j x d hj => absurd hj (Nat.not_lt_zero _), h1, hk, Lw, hE, hB⟩
   rintro i w30 ⟨hi, hall, h1, hk, Lw, hE, hB⟩
   refine cS (q0 (lP 4 tK rfl (q1 ?_)))
   refine cP _ rfl (fun c44 => ?_) (fun c44 => ?_)
   ·refine cK (xS (cS (cB (cS ?_))))
    refine a_beg Ext rfl ?_
    intro w31 ew31
    replace hE := ew31.bl hE hB
    replace h1 := h1.Y ew31
    replace hk := hk.Y ew31
    replace Lw := Lw.Y ew31
    replace hB := ew31.z hB
    have hS : Ext w31 w31 := ext_refl _
    have D_h1 := h1
    have D_hk := hk
    refine a_p 0 tK rfl rfl rfl rfl (by kernel_rfl) i3 hS ?_
    refine a_ld 1 tK (fun _ hs => (D_h1.Y hs).cell 3 _ rfl) rfl rfl rfl rfl rfl rfl (by kernel_rfl) i3 hS ?_
    refine a_p 2 tK rfl rfl rfl rfl (by kernel_rfl) i3 hS ?_
    have hik : i < t.kids.length := by omega
    have hd : ks.data[i]? = some (ks.data[i]'(by have := size_data ks; omega)) := Array.getElem?_eq_getElem _
    generalize hcc : (ks.data[i]'(by have := size_data ks; omega)) = dd at hd
    refine a_ixS 3 tK D_hk (gE hik) rfl rfl rfl rfl rfl rfl rfl rfl rfl rfl (by kernel_rfl) i4 hS ?_
    intro ebx eox eux hyx hX
    obtain ⟨kvx, rfl, opx, nmx, n64x, hkx⟩ := tO hyx
    replace hX : At M w31 ebx eox [.int .u8 t.kids[i].op, .string t.kids[i].name, .int .i64 t.kids[i].n, kvx] := hX
    refine a_lds 4 tK (fun _ hs j v hv => (hX.Y hs).cell j v hv) rfl rfl rfl rfl rfl rfl rfl (by kernel_rfl) i3 hS ?_
    refine a_p 5 tK rfl rfl rfl rfl (by kernel_rfl) i3 hS ?_
    refine a_p 6 tK rfl rfl rfl rfl (by kernel_rfl) i3 hS ?_
    refine a_si 7 tK hd rfl rfl rfl rfl rfl rfl rfl rfl (by kernel_rfl) i3 hS ?_
    refine a_bar 8 rfl (by kernel_rfl) (by kernel_rfl) (oK fo70 rfl rfl rfl (ih _ (gM hik) dd _ _ _ hyx Lw) ?_)
    rintro _ w32 ⟨rfl, ew32⟩
    replace hS := hS.then ew32
    replace hE := ew32.bl hE hB
    replace h1 := h1.Y ew32
    replace hk := hk.Y ew32
    replace hyx := Rep.Y hyx ew32
    replace hkx := hkx.Y ew32
    replace hX := hX.Y ew32
    replace Lw := Lw.Y ew32
    replace hB := ew32.z hB
    refine a_p 9 tK rfl rfl rfl rfl (by kernel_rfl) i3 hS ?_
    refine a_end (by kernel_rfl) ?_
    refine xS ?_
    refine c_ifB _ rfl (fun c45 => ?_) (fun c45 => ?_)
    ·refine q0 (lP 1 tK rfl (q1 (cR (xB (xR (xR (xB (xR (x1_ rfl rfl ?_)))))))))
     exact ⟨by rw [shape_kid hko hik hd c45], hE⟩
    refine cK (x_blk (xS (cG (lP 1 tK rfl ?_))))
    refine lC (o_ai rfl rfl rfl (by omega) rfl rfl ?_)
    refine lP 1 tK rfl (lN ?_)
    exact x_round (i + 1) (s3 rfl rfl rfl) ⟨by omega, kid_step hik hd hall c45, h1, hk, Lw, hE, hB⟩ (by omega)
   refine c_exit (xE (xE (x_blkE (xS (q0 (lP 1 tK rfl (q1 (cR (x1_ rfl rfl ?_)))))))))
   exact ⟨by rw [shape_yes hko hll hsort hhead (fun j x d hx hd => hall j x d (by have := (List.getElem?_eq_some_iff.1 hx).1; omega) hx hd)], hE⟩
  refine lP 5 tK rfl (q1 (c_ifF rfl (cK (xS (cS (q0 (lP 1 tK rfl (q1 (cB ?_)))))))))
  obtain rfl : bk = true := by simpa using c1
  replace hko : kidsOf t.op = some ks := hko
  have hll : t.kids.length = ks.size := by omega
  have hsort : (decide (8 ≤ t.op) == decide ((c.toNat : Int) = 114)) = true := by simpa using c2
  have hhead : headOk t.op t.name t.n = true := by unfold headOk; simp_all <;> omega
  refine c_loop (X := Nat) (fun i => [(2, .pointer (some ⟨b1, 0, none⟩)), (5, .string ks), (7, .int .i64 (i : Nat))]) (fun i w' => i ≤ t.kids.length ∧ (∀ (j : Nat) x d, j < i → t.kids[j]? = some x → ks.data[j]? = some d → shapeF x d = true) ∧ At M w' b1 0 [.int .u8 t.op, .string t.name, .int .i64 t.n, kv] ∧ Sl M w' kv t.kids ∧ Low M w' ∧ Below w.heap.size w w' ∧ w.heap.size ≤ w'.heap.size) (fun i => t.kids.length - i) (0) (s3 rfl rfl rfl) ?_ ?_
  ·exact ⟨Nat.zero_le _, fun j x d hj => absurd hj (Nat.not_lt_zero _), h1, hk, Lw, hE, hB⟩
  rintro i w33 ⟨hi, hall, h1, hk, Lw, hE, hB⟩
  refine cS (q0 (lP 4 tK rfl (q1 ?_)))
  refine cP _ rfl (fun c46 => ?_) (fun c46 => ?_)
  ·refine cK (xS (cS (cB (cS ?_))))
   refine a_beg Ext rfl ?_
   intro w34 ew34
   replace hE := ew34.bl hE hB
   replace h1 := h1.Y ew34
   replace hk := hk.Y ew34
   replace Lw := Lw.Y ew34
   replace hB := ew34.z hB
   have hS : Ext w34 w34 := ext_refl _
   have D_h1 := h1
   have D_hk := hk
   refine a_p 0 tK rfl rfl rfl rfl (by kernel_rfl) i3 hS ?_
   refine a_ld 1 tK (fun _ hs => (D_h1.Y hs).cell 3 _ rfl) rfl rfl rfl rfl rfl rfl (by kernel_rfl) i3 hS ?_
   refine a_p 2 tK rfl rfl rfl rfl (by kernel_rfl) i3 hS ?_
   have hik : i < t.kids.length := by omega
   have hd : ks.data[i]? = some (ks.data[i]'(by have := size_data ks; omega)) := Array.getElem?_eq_getElem _
   generalize hcc : (ks.data[i]'(by have := size_data ks; omega)) = dd at hd
   refine a_ixS 3 tK D_hk (gE hik) rfl rfl rfl rfl rfl rfl rfl rfl rfl rfl (by kernel_rfl) i4 hS ?_
   intro ebx eox eux hyx hX
   obtain ⟨kvx, rfl, opx, nmx, n64x, hkx⟩ := tO hyx
   replace hX : At M w34 ebx eox [.int .u8 t.kids[i].op, .string t.kids[i].name, .int .i64 t.kids[i].n, kvx] := hX
   refine a_lds 4 tK (fun _ hs j v hv => (hX.Y hs).cell j v hv) rfl rfl rfl rfl rfl rfl rfl (by kernel_rfl) i3 hS ?_
   refine a_p 5 tK rfl rfl rfl rfl (by kernel_rfl) i3 hS ?_
   refine a_p 6 tK rfl rfl rfl rfl (by kernel_rfl) i3 hS ?_
   refine a_si 7 tK hd rfl rfl rfl rfl rfl rfl rfl rfl (by kernel_rfl) i3 hS ?_
   refine a_bar 8 rfl (by kernel_rfl) (by kernel_rfl) (oK fo70 rfl rfl rfl (ih _ (gM hik) dd _ _ _ hyx Lw) ?_)
   rintro _ w35 ⟨rfl, ew35⟩
   replace hS := hS.then ew35
   replace hE := ew35.bl hE hB
   replace h1 := h1.Y ew35
   replace hk := hk.Y ew35
   replace hyx := Rep.Y hyx ew35
   replace hkx := hkx.Y ew35
   replace hX := hX.Y ew35
   replace Lw := Lw.Y ew35
   replace hB := ew35.z hB
   refine a_p 9 tK rfl rfl rfl rfl (by kernel_rfl) i3 hS ?_
   refine a_end (by kernel_rfl) ?_
   refine xS ?_
   refine c_ifB _ rfl (fun c47 => ?_) (fun c47 => ?_)
   ·refine q0 (lP 1 tK rfl (q1 (cR (xB (xR (xR (xB (xR (x1_ rfl rfl ?_)))))))))
    exact ⟨by rw [shape_kid hko hik hd c47], hE⟩
   refine cK (x_blk (xS (cG (lP 1 tK rfl ?_))))
   refine lC (o_ai rfl rfl rfl (by omega) rfl rfl ?_)
   refine lP 1 tK rfl (lN ?_)
   exact x_round (i + 1) (s3 rfl rfl rfl) ⟨by omega, kid_step hik hd hall c47, h1, hk, Lw, hE, hB⟩ (by omega)
  refine c_exit (xE (xE (x_blkE (xS (q0 (lP 1 tK rfl (q1 (cR (x1_ rfl rfl ?_)))))))))
  exact ⟨by rw [shape_yes hko hll hsort hhead (fun j x d hx hd => hall j x d (by have := (List.getElem?_eq_some_iff.1 hx).1; omega) hx hd)], hE⟩
 refine lP 10 tK rfl (q1 (c_ifF rfl (cK (xS (cS (q0 (lP 1 tK rfl (q1 (cB ?_)))))))))
 obtain rfl : bk = true := by simpa using c1
 replace hko : kidsOf t.op = some ks := hko
 have hll : t.kids.length = ks.size := by omega
 have hsort : (decide (8 ≤ t.op) == decide ((c.toNat : Int) = 114)) = true := by simpa using c2
 have hhead : headOk t.op t.name t.n = true := by unfold headOk; simp_all <;> omega
 refine c_loop (X := Nat) (fun i => [(2, .pointer (some ⟨b1, 0, none⟩)), (5, .string ks), (7, .int .i64 (i : Nat))]) (fun i w' => i ≤ t.kids.length ∧ (∀ (j : Nat) x d, j < i → t.kids[j]? = some x → ks.data[j]? = some d → shapeF x d = true) ∧ At M w' b1 0 [.int .u8 t.op, .string t.name, .int .i64 t.n, kv] ∧ Sl M w' kv t.kids ∧ Low M w' ∧ Below w.heap.size w w' ∧ w.heap.size ≤ w'.heap.size) (fun i => t.kids.length - i) (0) (s3 rfl rfl rfl) ?_ ?_
 ·exact ⟨Nat.zero_le _, fun j x d hj => absurd hj (Nat.not_lt_zero _), h1, hk, Lw, hE, hB⟩
 rintro i w36 ⟨hi, hall, h1, hk, Lw, hE, hB⟩
 refine cS (q0 (lP 4 tK rfl (q1 ?_)))
 refine cP _ rfl (fun c48 => ?_) (fun c48 => ?_)
 ·refine cK (xS (cS (cB (cS ?_))))
  refine a_beg Ext rfl ?_
  intro w37 ew37
  replace hE := ew37.bl hE hB
  replace h1 := h1.Y ew37
  replace hk := hk.Y ew37
  replace Lw := Lw.Y ew37
  replace hB := ew37.z hB
  have hS : Ext w37 w37 := ext_refl _
  have D_h1 := h1
  have D_hk := hk
  refine a_p 0 tK rfl rfl rfl rfl (by kernel_rfl) i3 hS ?_
  refine a_ld 1 tK (fun _ hs => (D_h1.Y hs).cell 3 _ rfl) rfl rfl rfl rfl rfl rfl (by kernel_rfl) i3 hS ?_
  refine a_p 2 tK rfl rfl rfl rfl (by kernel_rfl) i3 hS ?_
  have hik : i < t.kids.length := by omega
  have hd : ks.data[i]? = some (ks.data[i]'(by have := size_data ks; omega)) := Array.getElem?_eq_getElem _
  generalize hcc : (ks.data[i]'(by have := size_data ks; omega)) = dd at hd
  refine a_ixS 3 tK D_hk (gE hik) rfl rfl rfl rfl rfl rfl rfl rfl rfl rfl (by kernel_rfl) i4 hS ?_
  intro ebx eox eux hyx hX
  obtain ⟨kvx, rfl, opx, nmx, n64x, hkx⟩ := tO hyx
  replace hX : At M w37 ebx eox [.int .u8 t.kids[i].op, .string t.kids[i].name, .int .i64 t.kids[i].n, kvx] := hX
  refine a_lds 4 tK (fun _ hs j v hv => (hX.Y hs).cell j v hv) rfl rfl rfl rfl rfl rfl rfl (by kernel_rfl) i3 hS ?_
  refine a_p 5 tK rfl rfl rfl rfl (by kernel_rfl) i3 hS ?_
  refine a_p 6 tK rfl rfl rfl rfl (by kernel_rfl) i3 hS ?_
  refine a_si 7 tK hd rfl rfl rfl rfl rfl rfl rfl rfl (by kernel_rfl) i3 hS ?_
  refine a_bar 8 rfl (by kernel_rfl) (by kernel_rfl) (oK fo70 rfl rfl rfl (ih _ (gM hik) dd _ _ _ hyx Lw) ?_)
  rintro _ w38 ⟨rfl, ew38⟩
  replace hS := hS.then ew38
  replace hE := ew38.bl hE hB
  replace h1 := h1.Y ew38
  replace hk := hk.Y ew38
  replace hyx := Rep.Y hyx ew38
  replace hkx := hkx.Y ew38
  replace hX := hX.Y ew38
  replace Lw := Lw.Y ew38
  replace hB := ew38.z hB
  refine a_p 9 tK rfl rfl rfl rfl (by kernel_rfl) i3 hS ?_
  refine a_end (by kernel_rfl) ?_
  refine xS ?_
  refine c_ifB _ rfl (fun c49 => ?_) (fun c49 => ?_)
  ·refine q0 (lP 1 tK rfl (q1 (cR (xB (xR (xR (xB (xR (x1_ rfl rfl ?_)))))))))
   exact ⟨by rw [shape_kid hko hik hd c49], hE⟩
  refine cK (x_blk (xS (cG (lP 1 tK rfl ?_))))
  refine lC (o_ai rfl rfl rfl (by omega) rfl rfl ?_)
  refine lP 1 tK rfl (lN ?_)
  exact x_round (i + 1) (s3 rfl rfl rfl) ⟨by omega, kid_step hik hd hall c49, h1, hk, Lw, hE, hB⟩ (by omega)
 refine c_exit (xE (xE (x_blkE (xS (q0 (lP 1 tK rfl (q1 (cR (x1_ rfl rfl ?_)))))))))
 exact ⟨by rw [shape_yes hko hll hsort hhead (fun j x d hx hd => hall j x d (by have := (List.getElem?_eq_some_iff.1 hx).1; omega) hx hd)], hE⟩
end Go.Proofs.YtpoahmeacjggfaaGreat
namespace Rw
open Go Go.RowKit
/-- A value of so many cells, as it is. -/
structure VN (n : Nat) where
  v : Value
instance (n : Nat) : Rep (VN n) where
  sz := n + 1
  R := fun _ _ v x => v = x.v ∧ v.cells.size = n + 1 ∧ ∀ u ∈ v.cells.toList, u.oneCell' = true
  pos := Nat.succ_pos n
  size := fun h => h.2.1
  one := fun h => h.2.2
  upd := fun h _ => h
  wk := fun h _ => h
section
variable {k e B B' : Nat} {M M' : Nat → Prop} {w w' : World} {v : Value} {l : List (VN k)}
theorem Rs.vn : ∀ {us : List Value} {l : List (VN k)}, Rs M w us l → Rs M' w' us l
  | [], [], _ => trivial
  | _ :: _, _ :: _, h => ⟨h.1, Rs.vn h.2⟩
  | [], _ :: _, h => h.elim
  | _ :: _, [], h => h.elim
theorem OwnSl.keepV (h : OwnSl e B M w v l) (hM : ∀ b, v.ownBlock = some b → M' b) (hb : ∀ b cs T, v.ownBlock = some b → w.heap[b]? = some (.cells cs T (0, 0)) → w'.heap[b]? = w.heap[b]?) : OwnSl e B M' w' v l := by
  obtain ⟨us, hr, hs⟩ := h.row
  refine ⟨⟨us, ⟨hr.1, ?_⟩, hs.vn⟩, hM⟩
  rcases hr.2 with hn | ⟨g, cap, cur, rfl, hB, hg, rest⟩
  · exact .inl hn
  · exact .inr ⟨g, cap, cur, rfl, hB, (hb g _ _ rfl hg).trans hg, rest⟩
theorem OwnSl.geV (h : OwnSl e B M w v l) (hB : B' ≤ B) : OwnSl e B' M w v l := by
  obtain ⟨us, hr, hs⟩ := h.row
  refine ⟨⟨us, ⟨hr.1, ?_⟩, hs⟩, h.inM⟩
  rcases hr.2 with hn | ⟨g, cap, cur, rfl, hB', hg, rest⟩
  · exact .inl hn
  · exact .inr ⟨g, cap, cur, rfl, Nat.le_trans hB hB', hg, rest⟩
theorem OwnSl.slV (h : OwnSl e B M w v l) (hl : l.length < 140737488355328) {M0 : Nat → Prop} (h0 : ∀ b, v.ownBlock = some b → ¬ M0 b) : Sl M0 w v l := by
  obtain ⟨us, hr, hs⟩ := h.row
  have hlt := hr.lt
  rcases hr.2 with ⟨rfl, hn⟩ | ⟨g, cap, cur, rfl, hB, hg, hc, _, _, htake⟩
  · have : l = [] := List.eq_nil_of_length_eq_zero hn
    subst this
    exact sl_nil
  · refine ⟨_, cap, rfl, hl, hc, .inr ⟨g, 0, rfl, fun i x hx => ?_⟩⟩
    obtain ⟨u, hu, hR⟩ := hs.get hx
    refine ⟨u, hR, (hlt g rfl).2, h0 g rfl, fun j c hc => ?_⟩
    have := hr.cells (g := g) rfl (i * Rep.sz (VN k) + j) c (hs.flat_get hu j c hc)
    rw [addr_add] at this
    rwa [show 0 + i * Rep.sz (VN k) + j = 0 + (i * Rep.sz (VN k) + j) by omega]
theorem Sl.ofV {α : Type} [Rep α] (hk : Rep.sz α = k + 1) {ts : List α} (h : Sl M w v l) (hlen : l.length = ts.length) (hu : ∀ (i : Nat) (x : α) (u : VN k), ts[i]? = some x → l[i]? = some u → Rep.R M w u.v x) : Sl M w v ts := by
  obtain ⟨a, c, hv, h1, h2, he⟩ := h
  refine ⟨a, c, by rw [hv, hlen], by omega, by omega, ?_⟩
  rcases he with he | ⟨b, off, ha, hx⟩
  · left
    subst he
    exact List.eq_nil_of_length_eq_zero hlen.symm
  · right
    refine ⟨b, off, ha, fun i x hi => ?_⟩
    have hlt : i < l.length := by rw [hlen]; exact (List.getElem?_eq_some_iff.1 hi).1
    obtain ⟨u, ⟨e1, _⟩, hat⟩ := hx i _ (gE hlt)
    refine ⟨u, by rw [e1]; exact hu i x _ hi (gE hlt), ?_⟩
    rw [hk]; exact hat
end
/-- The blocks of F, and those that are new. -/
def Plus (F : Nat → Prop) (w w' : World) : Nat → Prop := fun c => F c ∨ (w.heap.size ≤ c ∧ c < w'.heap.size)
/-- The blocks of Q are as they were. -/
structure Kept (w0 w : World) (Q : Nat → Prop) : Prop where
  size : w0.heap.size ≤ w.heap.size
  old : ∀ x, Q x → x < w0.heap.size
  blk : ∀ x, Q x → w.heap[x]? = w0.heap[x]?
theorem Kept.refl {w : World} {Q : Nat → Prop} (h : ∀ x, Q x → x < w.heap.size) : Kept w w Q := ⟨lR _, h, fun _ _ => rfl⟩
theorem Kept.lt {w0 w : World} {Q : Nat → Prop} (h : Kept w0 w Q) (x : Nat) (hx : Q x) : 0 ≤ x ∧ x < w.heap.size := ⟨Nat.zero_le _, lT (h.old x hx) h.size⟩
theorem Kept.Y {w0 w w' : World} {Q M : Nat → Prop} {B : Nat} (h : Kept w0 w Q) (_hl : Low M w) (_hB : B ≤ w.heap.size) (e : Ext w w') : Kept w0 w' Q := ⟨Nat.le_trans h.size e.size, h.old, fun x hx => (e.block x (h.lt x hx).2).trans (h.blk x hx)⟩
theorem Kept.sp {w0 w w' : World} {Q M M' : Nat → Prop} {B : Nat} (h : Kept w0 w Q) (s : Stp B M M' w w') (hb : ∀ x, Q x → w'.heap[x]? = w.heap[x]?) : Kept w0 w' Q := ⟨Nat.le_trans h.size s.upd.1, h.old, fun x hx => (hb x hx).trans (h.blk x hx)⟩
/-- What isn't in F. -/
def Out (F : Nat → Prop) (w : World) : Nat → Prop := fun x => x < w.heap.size ∧ ¬ F x
/-- The value is the tree; all its blocks are in F (and from E's rows, from B on). -/
inductive OTy (E B : Nat) (w : World) : Ty → Value → (Nat → Prop) → Prop
  | mk {op n : Int} {name : ByteArray} {kids : List Ty} {kv : Value} (us : List (VN 3)) (Fs : Nat → Nat → Prop) (F : Nat → Prop)
      (hop : 0 ≤ op ∧ op ≤ 255) (hs : name.size < 140737488355328) (hn : I64 n) (hl : kids.length < 140737488355328)
      (hlt : ∀ c, F c → B ≤ c ∧ c < w.heap.size) (hr : OwnSl E B F w kv us) (hlen : us.length = kids.length)
      (hu : ∀ (i : Nat) (x : Ty) (u : VN 3), kids[i]? = some x → us[i]? = some u → OTy E B w x u.v (Fs i))
      (hF : ∀ i c, i < kids.length → Fs i c → F c ∧ kv.ownBlock ≠ some c)
      (hd : ∀ i j c, i < kids.length → j < kids.length → i ≠ j → Fs i c → ¬ Fs j c) :
      OTy E B w (.mk op name n kids) (.agg #[.int .u8 op, .string name, .int .i64 n, kv]) F
/-- Trees, one by one, that share nothing. -/
structure OTs (E B : Nat) (w : World) (us : List (VN 3)) (ts : List Ty) (F : Nat → Prop) : Prop where
  len : us.length = ts.length
  lt : ∀ c, F c → B ≤ c ∧ c < w.heap.size
  fam : ∃ Fs : Nat → Nat → Prop, (∀ (i : Nat) (x : Ty) (u : VN 3), ts[i]? = some x → us[i]? = some u → OTy E B w x u.v (Fs i)) ∧ (∀ i c, i < ts.length → Fs i c → F c) ∧
    (∀ i j c, i < ts.length → j < ts.length → i ≠ j → Fs i c → ¬ Fs j c)
section
variable {E B B' : Nat} {w w' : World} {t x : Ty} {v : Value} {us : List (VN 3)} {ts : List Ty} {F F' G G' : Nat → Prop} {M M' : Nat → Prop}
theorem oty_open (h : OTy E B w t v F) : ∃ (kv : Value) (us : List (VN 3)) (H : Nat → Prop), v = .agg #[.int .u8 t.op, .string t.name, .int .i64 t.n, kv] ∧ (0 ≤ t.op ∧ t.op ≤ 255) ∧ t.name.size < 140737488355328 ∧ I64 t.n ∧ t.kids.length < 140737488355328 ∧
    OwnSl E B F w kv us ∧ OTs E B w us t.kids H ∧ (∀ c, H c → F c ∧ kv.ownBlock ≠ some c) := by
  cases h with
  | mk us Fs F hop hs hn hl hlt hr hlen hu hF hd =>
    refine ⟨_, us, fun c => ∃ i, i < _ ∧ Fs i c, rfl, hop, hs, hn, hl, hr, ⟨hlen, fun c ⟨i, hi, hc⟩ => hlt c (hF i c hi hc).1, Fs, hu, fun i c hi hc => ⟨i, hi, hc⟩, hd⟩, fun c ⟨i, hi, hc⟩ => hF i c hi hc⟩
theorem oty_mk {kv : Value} {op n : Int} {name : ByteArray} {kids : List Ty} {H : Nat → Prop} (h1 : 0 ≤ op ∧ op ≤ 255) (h2 : name.size < 140737488355328) (h3 : I64 n) (h4 : kids.length < 140737488355328) (hlt : ∀ c, F c → B ≤ c ∧ c < w.heap.size)
    (hr : OwnSl E B F w kv us) (hk : OTs E B w us kids H) (hH : ∀ c, H c → F c ∧ kv.ownBlock ≠ some c) : OTy E B w (.mk op name n kids) (.agg #[.int .u8 op, .string name, .int .i64 n, kv]) F := by
  obtain ⟨Fs, h5, h6, h7⟩ := hk.fam
  exact .mk us Fs F h1 h2 h3 h4 hlt hr hk.len h5 (fun i c hi hc => hH c (h6 i c hi hc)) h7
theorem OTy.lt (h : OTy E B w t v F) : ∀ c, F c → B ≤ c ∧ c < w.heap.size := by
  cases h with
  | mk us Fs F hop hs hn hl hlt => exact hlt
theorem OTy.keepC (h : OTy E B w t v F) (hs : w.heap.size ≤ w'.heap.size) (hw : ∀ c cs T, F c → w.heap[c]? = some (.cells cs T (0, 0)) → w'.heap[c]? = w.heap[c]?) : OTy E B w' t v F := by
  induction h with
  | mk us Fs F hop hnm hn hl hlt hr hlen hu hF hd ih =>
    exact .mk us Fs F hop hnm hn hl (fun c hc => ⟨(hlt c hc).1, lT (hlt c hc).2 hs⟩) (hr.keepV hr.inM fun b cs T hb hg => hw b cs T (hr.inM b hb) hg) hlen (fun i x u hx hu' => ih i x u hx hu' fun c cs T hc => hw c cs T (hF i c (List.getElem?_eq_some_iff.1 hx).1 hc).1) hF hd
theorem OTy.keep (h : OTy E B w t v F) (hs : w.heap.size ≤ w'.heap.size) (hw : ∀ c, F c → w'.heap[c]? = w.heap[c]?) : OTy E B w' t v F := h.keepC hs fun c _ _ hc _ => hw c hc
theorem OTy.Y (h : OTy E B w t v F) (_hl : Low M w) (_hB : B ≤ w.heap.size) (e : Ext w w') : OTy E B w' t v F := h.keep e.size fun c hc => e.block c (h.lt c hc).2
theorem OTy.sp (h : OTy E B w t v F) (s : Stp B' M M' w w') (hw : ∀ c, F c → w'.heap[c]? = w.heap[c]?) : OTy E B w' t v F := h.keep s.upd.1 hw
theorem OTy.mono (h : OTy E B w t v F) (hF : ∀ c, F c → F' c) (hlt : ∀ c, F' c → B ≤ c ∧ c < w.heap.size) : OTy E B w t v F' := by
  cases h with
  | mk us Fs F hop hs hn hl _ hr hlen hu hFs hd => exact .mk us Fs F' hop hs hn hl hlt (hr.keepV (fun b hb => hF b (hr.inM b hb)) fun _ _ _ _ _ => rfl) hlen hu (fun i c hi hc => ⟨hF c (hFs i c hi hc).1, (hFs i c hi hc).2⟩) hd
theorem OTy.ge (h : OTy E B w t v F) (hB : B' ≤ B) : OTy E B' w t v F := by
  induction h with
  | mk us Fs F hop hs hn hl hlt hr hlen hu hF hd ih => exact .mk us Fs F hop hs hn hl (fun c hc => ⟨Nat.le_trans hB (hlt c hc).1, (hlt c hc).2⟩) (hr.geV hB) hlen ih hF hd
theorem OTy.size (h : OTy E B w t v F) : v.cells.size = 4 := by cases h; rfl
theorem OTy.rep (h : OTy E B w t v F) (hM : ∀ c, F c → ¬ M c) : Rep.R M w v t := by
  induction h with
  | mk us Fs F hop hs hn hl hlt hr hlen hu hF hd ih =>
    exact ty_mk hop hs hn ((hr.slV (M0 := M) (by omega) (fun b hb => hM b (hr.inM b hb))).ofV (k := 3) rfl hlen fun i x u hx hu' => ih i x u hx hu' fun c hc => hM c (hF i c (List.getElem?_eq_some_iff.1 hx).1 hc).1)
theorem OTy.one (h : OTy E B w t v F) : ∀ u ∈ v.cells.toList, u.oneCell' = true := Rep.one (h.rep (M := NoM) fun _ _ h => h)
theorem OTy.vn (h : OTy E B w t v F) : Rep.R M w' v (⟨v⟩ : VN 3) := ⟨rfl, h.size, h.one⟩
theorem OTy.repNew {w0 : World} (h : OTy E B w t v (Plus NoM w0 w)) (Lw : Low M w0) : Rep.R M w v t := h.rep fun c hc hm => by
  have := Lw c hm
  rcases hc with hc | hc
  · exact hc
  · omega
theorem ots_nil (hlt : ∀ c, F c → B ≤ c ∧ c < w.heap.size) : OTs E B w [] [] F := ⟨rfl, hlt, fun _ _ => False, fun i x u h => by simp at h, fun i c h => by simp at h, fun i j c h => by simp at h⟩
theorem OTs.keepC (h : OTs E B w us ts F) (hs : w.heap.size ≤ w'.heap.size) (hw : ∀ c cs T, F c → w.heap[c]? = some (.cells cs T (0, 0)) → w'.heap[c]? = w.heap[c]?) : OTs E B w' us ts F := by
  obtain ⟨Fs, h5, h6, h7⟩ := h.fam
  exact ⟨h.len, fun c hc => ⟨(h.lt c hc).1, lT (h.lt c hc).2 hs⟩, Fs, fun i x u hx hu => (h5 i x u hx hu).keepC hs fun c cs T hc => hw c cs T (h6 i c (List.getElem?_eq_some_iff.1 hx).1 hc), h6, h7⟩
theorem OTs.keep (h : OTs E B w us ts F) (hs : w.heap.size ≤ w'.heap.size) (hw : ∀ c, F c → w'.heap[c]? = w.heap[c]?) : OTs E B w' us ts F := h.keepC hs fun c _ _ hc _ => hw c hc
theorem OTs.Y (h : OTs E B w us ts F) (_hl : Low M w) (_hB : B ≤ w.heap.size) (e : Ext w w') : OTs E B w' us ts F := h.keep e.size fun c hc => e.block c (h.lt c hc).2
theorem OTs.sp (h : OTs E B w us ts F) (s : Stp B' M M' w w') (hw : ∀ c, F c → w'.heap[c]? = w.heap[c]?) : OTs E B w' us ts F := h.keep s.upd.1 hw
theorem OTs.app (h : OTs E B w us ts F) (hx : OTy E B w x v G) (hd : ∀ c, G c → ¬ F c) : OTs E B w (us ++ [⟨v⟩]) (ts ++ [x]) (fun c => F c ∨ G c) := by
  obtain ⟨Fs, h5, h6, h7⟩ := h.fam
  refine ⟨by simp [h.len], fun c hc => hc.elim (h.lt c) (hx.lt c), fun i c => if i < ts.length then Fs i c else G c, fun i y u hy hu => ?_, fun i c hi hc => ?_, fun i j c hi hj hij hc hc' => ?_⟩
  · by_cases hlt : i < ts.length
    · have hlt' : i < us.length := by rw [h.len]; exact hlt
      rw [List.getElem?_append_left hlt] at hy
      rw [List.getElem?_append_left hlt'] at hu
      simp only [hlt, if_true]
      exact h5 i y u hy hu
    · have h8 := (List.getElem?_eq_some_iff.1 hy).1
      simp only [List.length_append, List.length_singleton] at h8
      obtain rfl : i = ts.length := by omega
      rw [List.getElem?_append_right (lR _)] at hy
      rw [← h.len, List.getElem?_append_right (lR _)] at hu
      simp at hy hu
      subst hy; subst hu
      simpa using hx
  · by_cases hlt : i < ts.length
    · simp only [hlt, if_true] at hc; exact .inl (h6 i c hlt hc)
    · simp only [hlt, if_false] at hc; exact .inr hc
  · simp only [List.length_append, List.length_singleton] at hi hj
    by_cases hlt : i < ts.length
    · simp only [hlt, if_true] at hc
      by_cases hlt' : j < ts.length
      · simp only [hlt', if_true] at hc'; exact h7 i j c hlt hlt' hij hc hc'
      · simp only [hlt', if_false] at hc'; exact hd c hc' (h6 i c hlt hc)
    · simp only [hlt, if_false] at hc
      by_cases hlt' : j < ts.length
      · simp only [hlt', if_true] at hc'; exact hd c hc (h6 j c hlt' hc')
      · omega
theorem oty_fin {w0 : World} {kv : Value} {op n : Int} {name : ByteArray} {kids : List Ty} (h1 : 0 ≤ op ∧ op ≤ 255) (h2 : name.size < 140737488355328) (h3 : I64 n) (h4 : kids.length < 140737488355328)
    (hr : OwnSl E w0.heap.size M w kv us) (hk : OTs E w0.heap.size w us kids F) (hd : ∀ x y, kv.ownBlock = some x → F y → x ≠ y) : OTy E w0.heap.size w (.mk op name n kids) (.agg #[.int .u8 op, .string name, .int .i64 n, kv]) (Plus NoM w0 w) :=
  oty_mk h1 h2 h3 h4 (fun c hc => hc.elim (fun h => h.elim) id) (hr.keepV (fun b hb => .inr (hr.lt b hb)) fun _ _ _ _ _ => rfl) hk fun c hc => ⟨.inr (hk.lt c hc), fun e => hd c c e hc rfl⟩
end
end Rw
namespace Go.Proofs.YtpoahmeacjggfaaGreat
open Go Rw Go.RowKit
set_option maxRecDepth 4000
theorem once_spec (t : Ty) (M : Nat → Prop) (w : World) (v : Value) (ht : Rep.R M w v t) (Lw : Low M w) (hsz : psz t ≤ 2000000) :
  Calls Tryz.prog 71 #[v] w (Ret fun r w' => r = .bool (onceB t) ∧ Ext w w') := by
 have hE := Below.refl w.heap.size w
 have hB := lR w.heap.size
 obtain ⟨kv, rfl, op, nm, n64, hk⟩ := tO ht
 refine cN (n := 47) Tryz.func71 rfl rfl rfl ?_
 refine q0 ?_
 refine lC (o_box rfl rfl rfl ?_)
 intro b1 w1 hb_b1 ew1 h1
 replace h1 : Box _ b1 29 [.int .u8 t.op, .string t.name, .int .i64 t.n, kv] := h1
 replace h1 := h1.at (nO Lw hb_b1)
 replace hE := ew1.bl hE hB
 replace ht := Rep.Y ht ew1
 replace hk := hk.Y ew1
 replace Lw := Lw.Y ew1
 replace hB := ew1.z hB
 refine lP 1 tK rfl (q1 (q0 ?_))
 refine lC (oL tK (fun j v hv => h1.cell j v hv) rfl rfl rfl rfl rfl rfl ?_)
 refine lC (oK fo72 rfl rfl rfl (parts_spec t M _ _ ht Lw hsz) ?_)
 rintro vhp w2 ⟨hp, ew2⟩
 replace hE := ew2.bl hE hB
 replace ht := Rep.Y ht ew2
 replace hk := hk.Y ew2
 replace h1 := h1.Y ew2
 replace Lw := Lw.Y ew2
 replace hB := ew2.z hB
 have hpl : (partsL t).length = psz t := rfl
 refine lP 1 tK rfl (q1 (cS (q0 (lP 1 tK rfl (q1 (cB ?_))))))
 refine c_loop (X := Nat) (fun i => [(3, vhp), (4, .int .i64 (i : Nat))]) (fun i w' => i ≤ (partsL t).length ∧ (∀ (a b : Nat) (x y : Ty), a < i → (partsL t)[a]? = some x → (partsL t)[b]? = some y → ¬ (x.op = 7 ∧ y.op = 10 ∧ x.n = y.n)) ∧ Sl M w' vhp (partsL t) ∧ Low M w' ∧ Below w.heap.size w w' ∧ w.heap.size ≤ w'.heap.size) (fun i => (partsL t).length - i) (0) (s2 rfl rfl) ?_ ?_
 ·exact ⟨Nat.zero_le _, fun a b x y ha => absurd ha (Nat.not_lt_zero _), hp, Lw, hE, hB⟩
 rintro i w3 ⟨hi, hout, hp, Lw, hE, hB⟩
 refine cS (q0 (lP 2 tK rfl ?_))
 refine lC (o_len tK hp rfl rfl rfl rfl rfl ?_)
 refine lP 1 tK rfl (q1 ?_)
 refine cP _ rfl (fun c1 => ?_) (fun c1 => ?_)
 ·refine cK (xS (cS (cB (q0 (lP 1 tK rfl (q1 (cB ?_)))))))
  have hil : i < (partsL t).length := by omega
  refine c_loop (X := Nat) (fun k => [(3, vhp), (4, .int .i64 (i : Nat)), (5, .int .i64 (k : Nat))]) (fun k w' => k ≤ (partsL t).length ∧ (∀ (b : Nat) (y : Ty), b < k → (partsL t)[b]? = some y → ¬ ((partsL t)[i].op = 7 ∧ y.op = 10 ∧ (partsL t)[i].n = y.n)) ∧ Sl M w' vhp (partsL t) ∧ Low M w' ∧ Below w.heap.size w w' ∧ w.heap.size ≤ w'.heap.size) (fun k => (partsL t).length - k) (0) (s3 rfl rfl rfl) ?_ ?_
  ·exact ⟨Nat.zero_le _, fun b y hb => absurd hb (Nat.not_lt_zero _), hp, Lw, hE, hB⟩
  rintro k w4 ⟨hk, hin, hp, Lw, hE, hB⟩
  refine cS (q0 (lP 2 tK rfl ?_))
  refine lC (o_len tK hp rfl rfl rfl rfl rfl ?_)
  refine lP 1 tK rfl (q1 ?_)
  refine cP _ rfl (fun c2 => ?_) (fun c2 => ?_)
  ·refine cK (xS (cS (cB (cS ?_))))
   refine a_beg Ext rfl ?_
   intro w5 ew5
   replace hE := ew5.bl hE hB
   replace hp := hp.Y ew5
   replace Lw := Lw.Y ew5
   replace hB := ew5.z hB
   have hS : Ext w5 w5 := ext_refl _
   have D_hp := hp
   refine a_p 0 tK rfl rfl rfl rfl (by kernel_rfl) i3 hS ?_
   refine a_p 1 tK rfl rfl rfl rfl (by kernel_rfl) i3 hS ?_
   have hklx3 : k < (partsL t).length := by omega
   refine a_ixS 2 tK D_hp (gE hil) rfl rfl rfl rfl rfl rfl rfl rfl rfl rfl (by kernel_rfl) i4 hS ?_
   intro ebx3 eox3 eux3 hyx3 hatx3
   obtain ⟨kvx3, rfl, opx3, nmx3, n64x3, hkx3⟩ := tO hyx3
   replace hatx3 : At M w5 ebx3 eox3 [.int .u8 (partsL t)[i].op, .string (partsL t)[i].name, .int .i64 (partsL t)[i].n, kvx3] := hatx3
   refine a_p 3 tK rfl rfl rfl rfl (by kernel_rfl) i3 hS ?_
   refine a_ld 4 tK (fun _ hs => (hatx3.Y hs).cell 0 _ rfl) rfl rfl rfl rfl rfl rfl (by kernel_rfl) i3 hS ?_
   refine a_p 5 tK rfl rfl rfl rfl (by kernel_rfl) i3 hS ?_
   refine a_p 6 tK rfl rfl rfl rfl (by kernel_rfl) i3 hS ?_
   refine a_splitP 26 _ rfl (fun c4 => ?_) (fun c4 => ?_)
   ·refine a_p 7 tK rfl rfl rfl rfl (by kernel_rfl) i3 hS ?_
    refine a_p 8 tK rfl rfl rfl rfl (by kernel_rfl) i3 hS ?_
    have hklx5 : k < (partsL t).length := by omega
    refine a_ixS 9 tK D_hp (gE hklx5) rfl rfl rfl rfl rfl rfl rfl rfl rfl rfl (by kernel_rfl) i4 hS ?_
    intro ebx5 eox5 eux5 hyx5 hatx5
    obtain ⟨kvx5, rfl, opx5, nmx5, n64x5, hkx5⟩ := tO hyx5
    replace hatx5 : At M w5 ebx5 eox5 [.int .u8 (partsL t)[k].op, .string (partsL t)[k].name, .int .i64 (partsL t)[k].n, kvx5] := hatx5
    refine a_p 10 tK rfl rfl rfl rfl (by kernel_rfl) i3 hS ?_
    refine a_ld 11 tK (fun _ hs => (hatx5.Y hs).cell 0 _ rfl) rfl rfl rfl rfl rfl rfl (by kernel_rfl) i3 hS ?_
    refine a_p 12 tK rfl rfl rfl rfl (by kernel_rfl) i3 hS ?_
    refine a_p 13 tK rfl rfl rfl rfl (by kernel_rfl) i3 hS ?_
    refine a_p 14 tK rfl rfl rfl rfl (by kernel_rfl) i3 hS ?_
    refine a_splitP 34 _ rfl (fun c6 => ?_) (fun c6 => ?_)
    ·refine a_p 15 tK rfl rfl rfl rfl (by kernel_rfl) i3 hS ?_
     refine a_p 16 tK rfl rfl rfl rfl (by kernel_rfl) i3 hS ?_
     have hklx7 : k < (partsL t).length := by omega
     refine a_ixS 17 tK D_hp (gE hil) rfl rfl rfl rfl rfl rfl rfl rfl rfl rfl (by kernel_rfl) i4 hS ?_
     intro ebx7 eox7 eux7 hyx7 hatx7
     obtain ⟨kvx7, rfl, opx7, nmx7, n64x7, hkx7⟩ := tO hyx7
     replace hatx7 : At M w5 ebx7 eox7 [.int .u8 (partsL t)[i].op, .string (partsL t)[i].name, .int .i64 (partsL t)[i].n, kvx7] := hatx7
     refine a_p 18 tK rfl rfl rfl rfl (by kernel_rfl) i3 hS ?_
     refine a_ld 19 tK (fun _ hs => (hatx7.Y hs).cell 2 _ rfl) rfl rfl rfl rfl rfl rfl (by kernel_rfl) i3 hS ?_
     refine a_p 20 tK rfl rfl rfl rfl (by kernel_rfl) i3 hS ?_
     refine a_p 21 tK rfl rfl rfl rfl (by kernel_rfl) i3 hS ?_
     have hklx8 : k < (partsL t).length := by omega
     refine a_ixS 22 tK D_hp (gE hklx8) rfl rfl rfl rfl rfl rfl rfl rfl rfl rfl (by kernel_rfl) i4 hS ?_
     intro ebx8 eox8 eux8 hyx8 hatx8
     obtain ⟨kvx8, rfl, opx8, nmx8, n64x8, hkx8⟩ := tO hyx8
     replace hatx8 : At M w5 ebx8 eox8 [.int .u8 (partsL t)[k].op, .string (partsL t)[k].name, .int .i64 (partsL t)[k].n, kvx8] := hatx8
     refine a_p 23 tK rfl rfl rfl rfl (by kernel_rfl) i3 hS ?_
     refine a_ld 24 tK (fun _ hs => (hatx8.Y hs).cell 2 _ rfl) rfl rfl rfl rfl rfl rfl (by kernel_rfl) i3 hS ?_
     refine a_p 25 tK rfl rfl rfl rfl (by kernel_rfl) i3 hS ?_
     refine a_p 26 tK rfl rfl rfl rfl (by kernel_rfl) i3 hS ?_
     refine a_end (by kernel_rfl) ?_
     refine xS ?_
     refine cP _ rfl (fun c9 => ?_) (fun c9 => ?_)
     ·refine q0 (lP 1 tK rfl (q1 (cR (xB (xR (xR (xB (xB (xR (xR (xB (xR (x1_ rfl rfl ?_)))))))))))))
      have hkl : k < (partsL t).length := by omega
      exact ⟨by rw [once_no hil hkl (by assumption) (by assumption) (by assumption)], hE⟩
     refine cK (x_blk (xS (cG (lP 1 tK rfl ?_))))
     refine lC (o_ai rfl rfl rfl (by omega) rfl rfl ?_)
     refine lP 1 tK rfl (lN ?_)
     have hkl : k < (partsL t).length := by omega
     exact x_round (k + 1) (s3 rfl rfl rfl) ⟨by omega, conf_step hin hkl (fun h => by obtain ⟨h1, h2, h3⟩ := h; first | exact absurd h1 (by assumption) | exact absurd h2 (by assumption) | exact absurd h3 (by assumption)), hp, Lw, hE, hB⟩ (by omega)
    refine aK 15 rfl rfl rfl (by kernel_rfl) i3 hS ?_
    refine aK 16 rfl rfl rfl (by kernel_rfl) i3 hS ?_
    refine aK 17 rfl rfl rfl (by kernel_rfl) i3 hS ?_
    refine aK 18 rfl rfl rfl (by kernel_rfl) i3 hS ?_
    refine aK 19 rfl rfl rfl (by kernel_rfl) i3 hS ?_
    refine aK 20 rfl rfl rfl (by kernel_rfl) i3 hS ?_
    refine aK 21 rfl rfl rfl (by kernel_rfl) i3 hS ?_
    refine aK 22 rfl rfl rfl (by kernel_rfl) i3 hS ?_
    refine aK 23 rfl rfl rfl (by kernel_rfl) i3 hS ?_
    refine aK 24 rfl rfl rfl (by kernel_rfl) i3 hS ?_
    refine aK 25 rfl rfl rfl (by kernel_rfl) i3 hS ?_
    refine a_p 26 tK rfl rfl rfl rfl (by kernel_rfl) i3 hS ?_
    refine a_end (by kernel_rfl) ?_
    refine xS (c_ifF rfl (cK (x_blk (xS (cG (lP 1 tK rfl ?_))))))
    refine lC (o_ai rfl rfl rfl (by omega) rfl rfl ?_)
    refine lP 1 tK rfl (lN ?_)
    have hkl : k < (partsL t).length := by omega
    exact x_round (k + 1) (s3 rfl rfl rfl) ⟨by omega, conf_step hin hkl (fun h => by obtain ⟨h1, h2, h3⟩ := h; first | exact absurd h1 (by assumption) | exact absurd h2 (by assumption) | exact absurd h3 (by assumption)), hp, Lw, hE, hB⟩ (by omega)
   refine aK 7 rfl rfl rfl (by kernel_rfl) i3 hS ?_
   refine aK 8 rfl rfl rfl (by kernel_rfl) i3 hS ?_
   refine aK 9 rfl rfl rfl (by kernel_rfl) i3 hS ?_
   refine aK 10 rfl rfl rfl (by kernel_rfl) i3 hS ?_
   refine aK 11 rfl rfl rfl (by kernel_rfl) i3 hS ?_
   refine aK 12 rfl rfl rfl (by kernel_rfl) i3 hS ?_
   refine a_p 13 tK rfl rfl rfl rfl (by kernel_rfl) i3 hS ?_
   refine a_p 14 tK rfl rfl rfl rfl (by kernel_rfl) i3 hS ?_
   refine aK 15 rfl rfl rfl (by kernel_rfl) i3 hS ?_
   refine aK 16 rfl rfl rfl (by kernel_rfl) i3 hS ?_
   refine aK 17 rfl rfl rfl (by kernel_rfl) i3 hS ?_
   refine aK 18 rfl rfl rfl (by kernel_rfl) i3 hS ?_
   refine aK 19 rfl rfl rfl (by kernel_rfl) i3 hS ?_
   refine aK 20 rfl rfl rfl (by kernel_rfl) i3 hS ?_
   refine aK 21 rfl rfl rfl (by kernel_rfl) i3 hS ?_
   refine aK 22 rfl rfl rfl (by kernel_rfl) i3 hS ?_
   refine aK 23 rfl rfl rfl (by kernel_rfl) i3 hS ?_
   refine aK 24 rfl rfl rfl (by kernel_rfl) i3 hS ?_
   refine aK 25 rfl rfl rfl (by kernel_rfl) i3 hS ?_
   refine a_p 26 tK rfl rfl rfl rfl (by kernel_rfl) i3 hS ?_
   refine a_end (by kernel_rfl) ?_
   refine xS (c_ifF rfl (cK (x_blk (xS (cG (lP 1 tK rfl ?_))))))
   refine lC (o_ai rfl rfl rfl (by omega) rfl rfl ?_)
   refine lP 1 tK rfl (lN ?_)
   have hkl : k < (partsL t).length := by omega
   exact x_round (k + 1) (s3 rfl rfl rfl) ⟨by omega, conf_step hin hkl (fun h => by obtain ⟨h1, h2, h3⟩ := h; first | exact absurd h1 (by assumption) | exact absurd h2 (by assumption) | exact absurd h3 (by assumption)), hp, Lw, hE, hB⟩ (by omega)
  refine c_exit (xE (xE (x_blkE (x_blk (xS (cG (lP 1 tK rfl ?_)))))))
  refine lC (o_ai rfl rfl rfl (by omega) rfl rfl ?_)
  refine lP 1 tK rfl (lN ?_)
  exact x_round (i + 1) (s2 rfl rfl) ⟨by omega, conf_row hout hil (fun b y hb hy => hin b y (by omega) hy), hp, Lw, hE, hB⟩ (by omega)
 refine c_exit (xE (xE (x_blkE (xS (q0 (lP 1 tK rfl (q1 (cR (x1_ rfl rfl ?_)))))))))
 exact ⟨by rw [once_yes (fun a b x y hx hy => hout a b x y (by have := (List.getElem?_eq_some_iff.1 hx).1; omega) hx hy)], hE⟩
theorem refRight_spec (t : Ty) (M : Nat → Prop) (w : World) (v : Value) (ht : Rep.R M w v t) (Lw : Low M w) (hsz : psz t ≤ 2000000) :
  Calls Tryz.prog 51 #[v] w (Ret fun r w' => r = .bool (rightB t) ∧ Ext w w') := by
 have hE := Below.refl w.heap.size w
 have hB := lR w.heap.size
 obtain ⟨kv, rfl, op, nm, n64, hk⟩ := tO ht
 refine cN (n := 9) Tryz.func51 rfl rfl rfl ?_
 refine q0 ?_
 refine lC (o_box rfl rfl rfl ?_)
 intro b1 w1 hb_b1 ew1 h1
 replace h1 : Box _ b1 29 [.int .u8 t.op, .string t.name, .int .i64 t.n, kv] := h1
 replace h1 := h1.at (nO Lw hb_b1)
 replace hE := ew1.bl hE hB
 replace ht := Rep.Y ht ew1
 replace hk := hk.Y ew1
 replace Lw := Lw.Y ew1
 replace hB := ew1.z hB
 refine lP 1 tK rfl (q1 (q0 ?_))
 refine lC (oL tK (fun j v hv => h1.cell j v hv) rfl rfl rfl rfl rfl rfl ?_)
 refine lC (oK fo70 rfl rfl rfl (shape_spec t 116 M _ _ ht Lw) ?_)
 rintro _ w2 ⟨rfl, ew2⟩
 replace hE := ew2.bl hE hB
 replace ht := Rep.Y ht ew2
 replace hk := hk.Y ew2
 replace h1 := h1.Y ew2
 replace Lw := Lw.Y ew2
 replace hB := ew2.z hB
 refine lP 1 tK rfl ?_
 refine l_split 5 _ rfl (fun c1 => ?_) (fun c1 => ?_)
 ·refine lC (oL tK (fun j v hv => h1.cell j v hv) rfl rfl rfl rfl rfl rfl ?_)
  refine lC (oK fo71 rfl rfl rfl (once_spec t M _ _ ht Lw hsz) ?_)
  rintro _ w3 ⟨rfl, ew3⟩
  replace hE := ew3.bl hE hB
  replace ht := Rep.Y ht ew3
  replace hk := hk.Y ew3
  replace h1 := h1.Y ew3
  replace Lw := Lw.Y ew3
  replace hB := ew3.z hB
  refine lP 2 tK rfl (q1 (cR (x1_ rfl rfl ?_)))
  exact ⟨by simp_all [rightB], hE⟩
 refine lP 4 tK rfl (q1 (cR (x1_ rfl rfl ?_)))
 exact ⟨by simp_all [rightB], hE⟩
theorem copied_own : ∀ (t : Ty) (M : Nat → Prop) (w : World) (v : Value), Rep.R M w v t → Low M w → psz t ≤ 2000000 → Calls Tryz.prog 117 #[v] w (Ret fun r w' => OTy 29 w.heap.size w' t r (Plus NoM w w') ∧ Ext w w') := by
 refine Ty.ind fun t ih => ?_
 intro M w v ht hlow0 hsz
 have Lw := hlow0
 have hB := lR w.heap.size
 have hE := Below.refl w.heap.size w
 have hsub : ∀ b, M b → M b := fun _ h => h
 obtain ⟨kv, rfl, op, nm, n64, hk⟩ := tO ht
 have hps := psz_eq t
 have hkl := len_psz t.kids
 refine cN (n := 22) Tryz.func117 rfl rfl rfl ?_
 refine q0 ?_
 refine lC (o_box rfl rfl rfl ?_)
 intro b1 w1 qb1 ew1 hb1
 have sw1 := Stp.add ew1 Lw hB (lQ qb1.symm) hb1.lt
 have h1 : MB w.heap.size (Rw.Add M b1) w1 b1 29 [.int .u8 t.op, .string t.name, .int .i64 t.n, kv] := MB.mk' hb1 qb1 hB
 replace hE := hE.trans sw1.below
 replace ht := Rep.sp ht sw1
 replace hk := hk.sp sw1
 replace hsub := sw1.sb hsub
 replace Lw := sw1.low
 replace hB := sw1.z hB
 refine lC (o_new tK rfl rfl rfl ?_)
 intro b2 w2 qb2 ew2 hb2
 have ne_h1_h2 : b1 ≠ b2 := by have := h1.lt; omega
 have sw2 := Stp.add ew2 Lw hB (lQ qb2.symm) hb2.lt
 have h2 : MB w.heap.size (Rw.Add (Rw.Add M b1) b2) w2 b2 29 [.int .u8 0, .string ⟨#[]⟩, .int .i64 0, .slice none 0 0] := MB.mk' hb2 qb2 hB
 replace h1 := h1.sp sw2 (ew2.block b1 h1.lt)
 replace hE := hE.trans sw2.below
 replace ht := Rep.sp ht sw2
 replace hk := hk.sp sw2
 replace hsub := sw2.sb hsub
 replace Lw := sw2.low
 replace hB := sw2.z hB
 refine q1 (q0 (lP 1 tK rfl (q1 (cS (q0 (lP 1 tK rfl ?_))))))
 refine lC (oD tK (h1.cell 3 _ rfl) rfl rfl rfl rfl rfl ?_)
 refine lC (o_len tK hk rfl rfl rfl rfl rfl ?_)
 refine lP 1 tK rfl (q1 (cB ?_))
 have d_ho_h1 : ∀ x, (.slice none 0 0 : Value).ownBlock = some x → x ≠ b1 := fun x hx => by simp [Value.ownBlock] at hx
 have d_ho_h2 : ∀ x, (.slice none 0 0 : Value).ownBlock = some x → x ≠ b2 := fun x hx => by simp [Value.ownBlock] at hx
 have d_hO_h1 : ∀ x, NoM x → x ≠ b1 := fun _ h => h.elim
 have d_hO_h2 : ∀ x, NoM x → x ≠ b2 := fun _ h => h.elim
 have dd_ho_hO : ∀ x y, (.slice none 0 0 : Value).ownBlock = some x → NoM y → x ≠ y := fun _ _ _ h => h.elim
 refine c_loop5 (X := Nat) (Y := Value) (Z := Nat → Prop) (U := List (VN 3)) (V := Nat → Prop) (fun i v M1 us F => [(1, .pointer (some ⟨b1, 0, none⟩)), (2, .pointer (some ⟨b2, 0, none⟩)), (3, v), (7, kv), (8, .int .i64 (t.kids.length : Int)), (9, .int .i64 (i : Nat))]) (fun i v M1 us F w' => i ≤ t.kids.length ∧ OwnSl 29 w.heap.size M1 w' v us ∧ OTs 29 w.heap.size w' us (t.kids.take i) F ∧ MB w.heap.size M1 w' b1 29 [.int .u8 t.op, .string t.name, .int .i64 t.n, kv] ∧ MB w.heap.size M1 w' b2 29 [.int .u8 0, .string ⟨#[]⟩, .int .i64 0, .slice none 0 0] ∧ (∀ x, (v : Value).ownBlock = some x → x ≠ b1) ∧ (∀ x, (v : Value).ownBlock = some x → x ≠ b2) ∧ (∀ x, F x → x ≠ b1) ∧ (∀ x, F x → x ≠ b2) ∧ (∀ x y, (v : Value).ownBlock = some x → F y → x ≠ y) ∧ Sl M1 w' kv t.kids ∧ Low M1 w' ∧ (∀ b, M b → M1 b) ∧ Below w.heap.size w w' ∧ w.heap.size ≤ w'.heap.size) (fun i v M1 us F => t.kids.length - i) (0) (.slice none 0 0) ((Rw.Add (Rw.Add M b1) b2)) ([]) (NoM) (s6 rfl rfl rfl rfl rfl rfl) ?_ ?_
 ·exact ⟨Nat.zero_le _, own_nil, ots_nil (fun _ h => h.elim), h1, h2, d_ho_h1, d_ho_h2, d_hO_h1, d_hO_h2, dd_ho_hO, hk, Lw, hsub, hE, hB⟩
 rintro i v M1 us F w3 ⟨hi, ho, hO, h1, h2, d_ho_h1, d_ho_h2, d_hO_h1, d_hO_h2, dd_ho_hO, hk, Lw, hsub, hE, hB⟩
 have hul := hO.len
 rw [List.length_take] at hul
 refine q0 (lP 1 tK rfl (q1 (cS ?_)))
 refine cP _ rfl (fun c1 => ?_) (fun c1 => ?_)
 ·refine cK (xS (cS (cB (q0 ?_))))
  have hik : i < t.kids.length := by omega
  have hp1 := psz_get hik
  refine lC (o_ixS tK hk (gE hik) rfl rfl rfl rfl rfl rfl rfl rfl rfl ?_)
  intro ebx eox eux hyx hX
  obtain ⟨kvx, rfl, opx, nmx, n64x, hkx⟩ := tO hyx
  replace hX : At M1 w3 ebx eox [.int .u8 t.kids[i].op, .string t.kids[i].name, .int .i64 t.kids[i].n, kvx] := hX
  refine lC (oL tK (fun j v hv => hX.cell j v hv) rfl rfl rfl rfl rfl rfl ?_)
  refine lC (o_new tK rfl rfl rfl ?_)
  intro b5 w4 qb5 ew4 hb5
  have nb5 := nO Lw qb5
  refine lC (o_st tK hb5 rfl rfl rfl rfl (Rep.one hyx) rfl rfl ?_)
  intro w5 h5 uw5 bew5
  have ew5 : Ext w3 w5 := ew4.trans (bew5 _ (lQ qb5.symm))
  replace ho := ho.Y Lw hB ew5
  replace hO := hO.Y Lw hB ew5
  replace h1 := h1.Y Lw hB ew5
  replace h2 := h2.Y Lw hB ew5
  replace hE := ew5.bl hE hB
  replace hk := hk.Y ew5
  replace hyx := Rep.Y hyx ew5
  replace hkx := hkx.Y ew5
  replace hX := hX.Y ew5
  replace Lw := Lw.Y ew5
  replace hB := ew5.z hB
  replace h5 : Box w5 b5 29 [.int .u8 t.kids[i].op, .string t.kids[i].name, .int .i64 t.kids[i].n, kvx] := h5
  replace h5 := h5.at nb5
  refine q1 (cG (lP 1 tK rfl ?_))
  refine lC (oL tK (fun j v hv => h5.cell j v hv) rfl rfl rfl rfl rfl rfl ?_)
  have l_h1 := h1.lt
  have l_h2 := h2.lt
  have l_ho := ho.lt
  have l_hO := hO.lt
  have hB0 := hB
  refine lC (oK fo117 rfl rfl rfl (ih _ (gM hik) _ _ _ hyx Lw (by omega)) ?_)
  rintro vr w6 ⟨hr, ew6⟩
  replace hr := hr.ge hB0
  have hGl : ∀ c, Plus NoM w5 w6 c → w5.heap.size ≤ c := fun c h => h.elim (fun h => h.elim) (fun h => h.1)
  replace ho := ho.Y Lw hB ew6
  replace hO := hO.Y Lw hB ew6
  replace h1 := h1.Y Lw hB ew6
  replace h2 := h2.Y Lw hB ew6
  replace hE := ew6.bl hE hB
  replace hk := hk.Y ew6
  replace hyx := Rep.Y hyx ew6
  replace hkx := hkx.Y ew6
  replace hX := hX.Y ew6
  replace h5 := h5.Y ew6
  replace Lw := Lw.Y ew6
  replace hB := ew6.z hB
  generalize Plus NoM w5 w6 = G at hr hGl
  have d_hr_h1 : ∀ x, G x → x ≠ b1 := fun x hx => by have := hGl x hx; omega
  have d_hr_h2 : ∀ x, G x → x ≠ b2 := fun x hx => by have := hGl x hx; omega
  have dd_ho_hr : ∀ x y, (v : Value).ownBlock = some x → G y → x ≠ y := fun x y hx hy => by have := hGl y hy; have := (l_ho x hx).2; omega
  have dd_hr_hO : ∀ c, G c → ¬ F c := fun c hg hf => by have := hGl c hg; have := (l_hO c hf).2; omega
  refine lC (o_bs tK rfl rfl rfl rfl rfl rfl rfl (sz1 hr.size) rfl rfl rfl ?_)
  intro bw7 w7 qbw7 ew7 hbw7
  have nbw7 := nO Lw qbw7
  replace ho := ho.Y Lw hB ew7
  replace hO := hO.Y Lw hB ew7
  replace h1 := h1.Y Lw hB ew7
  replace h2 := h2.Y Lw hB ew7
  replace hr := hr.Y Lw hB ew7
  replace hE := ew7.bl hE hB
  replace hk := hk.Y ew7
  replace hyx := Rep.Y hyx ew7
  replace hkx := hkx.Y ew7
  replace hX := hX.Y ew7
  replace h5 := h5.Y ew7
  replace Lw := Lw.Y ew7
  replace hB := ew7.z hB
  refine lC (o_app1 tK ho hbw7 nbw7 hr.vn Lw hB rfl rfl rfl rfl rfl rfl rfl (by omega) (by show (_ + _) * 56 ≤ _; omega) rfl rfl ?_)
  intro vw8 w8 Mw8 hw8 sw8 frw8 blw8
  have zd_ho_h1 := d_ho_h1
  replace d_ho_h1 : ∀ x, (vw8 : Value).ownBlock = some x → x ≠ b1 := fun x hx => (blw8 x hx).elim (d_ho_h1 x) (fun h e => by have := h1.lt; omega)
  have zd_ho_h2 := d_ho_h2
  replace d_ho_h2 : ∀ x, (vw8 : Value).ownBlock = some x → x ≠ b2 := fun x hx => (blw8 x hx).elim (d_ho_h2 x) (fun h e => by have := h2.lt; omega)
  have zdd_ho_hO := dd_ho_hO
  replace dd_ho_hO : ∀ x y, (vw8 : Value).ownBlock = some x → F y → x ≠ y := fun x y hx hy => (blw8 x hx).elim (fun h => dd_ho_hO x y h hy) (fun h e => by have := (hO.lt y hy).2; omega)
  have zdd_ho_hr := dd_ho_hr
  replace dd_ho_hr : ∀ x y, (vw8 : Value).ownBlock = some x → G y → x ≠ y := fun x y hx hy => (blw8 x hx).elim (fun h => dd_ho_hr x y h hy) (fun h e => by have := (hr.lt y hy).2; omega)
  replace hO := hO.sp sw8 (fun x hx => frw8 x (hO.lt x hx).2 (fun e => zdd_ho_hO x x e.symm hx rfl))
  replace h1 := h1.sp sw8 (frw8 b1 h1.lt (fun e => zd_ho_h1 _ e.symm rfl))
  replace h2 := h2.sp sw8 (frw8 b2 h2.lt (fun e => zd_ho_h2 _ e.symm rfl))
  replace hr := hr.sp sw8 (fun x hx => frw8 x (hr.lt x hx).2 (fun e => zdd_ho_hr x x e.symm hx rfl))
  replace hE := hE.trans sw8.below
  replace hk := hk.sp sw8
  replace hyx := Rep.sp hyx sw8
  replace hkx := hkx.sp sw8
  replace hX := hX.sp sw8
  replace h5 := h5.sp sw8
  replace hsub := sw8.sb hsub
  replace Lw := sw8.low
  replace hB := sw8.z hB
  replace ho := hw8
  clear hw8
  refine lP 1 tK rfl (q2 (xS (cG ?_)))
  refine lC (o_ai rfl rfl rfl (by omega) rfl rfl ?_)
  refine lP 1 tK rfl (lN ?_)
  have hO2 := hO.app hr dd_hr_hO
  exact x_round5 (i + 1) (vw8) (Mw8) (us ++ [⟨vr⟩]) (fun c => F c ∨ G c) (s6 rfl rfl rfl rfl rfl rfl) ⟨by omega, ho, by rw [List.take_succ_eq_append_getElem hik]; exact hO2, h1, h2, d_ho_h1, d_ho_h2, (fun x hx => hx.elim (d_hO_h1 x) (d_hr_h1 x)), (fun x hx => hx.elim (d_hO_h2 x) (d_hr_h2 x)), (fun x y hx hy => hy.elim (dd_ho_hO x y hx) (dd_ho_hr x y hx)), hk, Lw, hsub, hE, hB⟩ (by omega)
 refine c_exit (xE (xE (x_blkE (xS (q0 (lP 2 tK rfl ?_))))))
 obtain rfl : i = t.kids.length := by omega
 rw [List.take_of_length_le (lR _)] at hO
 obtain ⟨av, cv, rfl, hcv⟩ := ho.val
 refine lC (o_st tK h1.box rfl rfl rfl rfl (by simp [Value.cells, Value.oneCell']) rfl rfl ?_)
 intro w9 hw9 qw9 bew9
 have uw9 : UpdB _ _ _ := ⟨qw9, bew9⟩
 have sw9 := uw9.sp h1.inM Lw h1.ge
 have frw9 := qw9.2
 replace ho := ho.sp sw9 (fun x hx => frw9 x (ho.lt x hx).2 (d_ho_h1 x hx))
 replace hO := hO.sp sw9 (fun x hx => frw9 x (hO.lt x hx).2 (d_hO_h1 x hx))
 replace h2 := h2.sp sw9 (frw9 b2 h2.lt ne_h1_h2.symm)
 replace hE := hE.trans sw9.below
 replace hk := hk.sp sw9
 replace hsub := sw9.sb hsub
 replace Lw := sw9.low
 replace hB := sw9.z hB
 replace h1 : MB w.heap.size _ w9 b1 _ [.int .u8 t.op, .string t.name, .int .i64 t.n, .slice av us.length cv] := ⟨hw9, h1.inM, h1.ge⟩
 refine q1 (q0 ?_)
 refine lC (oL tK (fun j v hv => h1.cell j v hv) rfl rfl rfl rfl rfl rfl ?_)
 refine lC (o_st tK h2.box rfl rfl rfl rfl (by intro u hu; simp [Value.cells] at hu; rcases hu with rfl | rfl | rfl | rfl <;> rfl) rfl rfl ?_)
 intro w10 hw10 qw10 bew10
 have uw10 : UpdB _ _ _ := ⟨qw10, bew10⟩
 have sw10 := uw10.sp h2.inM Lw h2.ge
 have frw10 := qw10.2
 replace ho := ho.sp sw10 (fun x hx => frw10 x (ho.lt x hx).2 (d_ho_h2 x hx))
 replace hO := hO.sp sw10 (fun x hx => frw10 x (hO.lt x hx).2 (d_hO_h2 x hx))
 replace h1 := h1.sp sw10 (frw10 b1 h1.lt ne_h1_h2)
 replace hE := hE.trans sw10.below
 replace hk := hk.sp sw10
 replace hsub := sw10.sb hsub
 replace Lw := sw10.low
 replace hB := sw10.z hB
 replace h2 : MB w.heap.size _ w10 b2 _ [.int .u8 t.op, .string t.name, .int .i64 t.n, .slice av us.length cv] := ⟨hw10, h2.inM, h2.ge⟩
 refine q1 (cR ?_)
 refine x_ret1s tK (fun j v hv => h2.cell j v hv) rfl rfl rfl rfl rfl ?_
 have hfin := oty_fin op nm n64 (by omega) ho hO dd_ho_hO
 rw [← ty_eta] at hfin
 exact ⟨hfin, hE⟩
end Go.Proofs.YtpoahmeacjggfaaGreat
namespace Rw
abbrev St := List (Int × Bool)
def meetS (s : St) (n : Int) (row : Bool) : Bool × St := ((match getK s n with | none => true | some b => b == row), putK s n row)
def preR (op : Int) (row : Bool) (len : Nat) (name : ByteArray) (n : Int) : Bool := match kidsOf op with
  | none => false
  | some ks => (row == decide (8 ≤ op)) && (decide (len = ks.size) && headOk op name n)
def numB (op : Int) : Bool := decide (op = 7) || decide (op = 10)
def kidRow (op : Int) (i : Nat) : Bool := decide (op = 5) || (decide (op = 6) || (decide (op = 11) && decide ((i : Int) = 1)))
def runR : List (Bool → St → Bool × St) → (Nat → Bool) → Nat → St → Bool × St
  | [], _, _, s => (true, s)
  | f :: fs, g, i, s => bif (f (g i) s).1 then runR fs g (i + 1) (f (g i) s).2 else (false, (f (g i) s).2)
def rightF : Ty → Bool → St → Bool × St
  | .mk op name n l => fun row s => bif preR op row l.length name n then
      (bif (bif numB op then meetS s n row else (true, s)).1 then runR (l.map rightF) (kidRow op) 0 (bif numB op then meetS s n row else (true, s)).2 else (false, (bif numB op then meetS s n row else (true, s)).2)) else (false, s)
theorem rightF_eq (t : Ty) (row : Bool) (s : St) : rightF t row s = bif preR t.op row t.kids.length t.name t.n then
      (bif (bif numB t.op then meetS s t.n row else (true, s)).1 then runR (t.kids.map rightF) (kidRow t.op) 0 (bif numB t.op then meetS s t.n row else (true, s)).2 else (false, (bif numB t.op then meetS s t.n row else (true, s)).2)) else (false, s) := by
  cases t; rw [rightF]; rfl
theorem right_pre_no {t : Ty} {row : Bool} {s : St} (h : preR t.op row t.kids.length t.name t.n = false) : rightF t row s = (false, s) := by rw [rightF_eq, h]; rfl
theorem right_meet_no {t : Ty} {row : Bool} {s : St} (h : preR t.op row t.kids.length t.name t.n = true) (hn : numB t.op = true) (hm : (meetS s t.n row).1 = false) : rightF t row s = (false, (meetS s t.n row).2) := by
  rw [rightF_eq, h, hn]; simp [hm]
theorem right_meet_yes {t : Ty} {row : Bool} {s : St} (h : preR t.op row t.kids.length t.name t.n = true) (hn : numB t.op = true) (hm : (meetS s t.n row).1 = true) : rightF t row s = runR (t.kids.map rightF) (kidRow t.op) 0 (meetS s t.n row).2 := by
  rw [rightF_eq, h, hn]; simp [hm]
theorem right_plain {t : Ty} {row : Bool} {s : St} (h : preR t.op row t.kids.length t.name t.n = true) (hn : numB t.op = false) : rightF t row s = runR (t.kids.map rightF) (kidRow t.op) 0 s := by
  rw [rightF_eq, h, hn]; simp
theorem rS {l : List Ty} {g : Nat → Bool} {i : Nat} {s : St} (hi : i < l.length) : runR ((l.drop i).map rightF) g i s = bif (rightF l[i] (g i) s).1 then runR ((l.drop (i + 1)).map rightF) g (i + 1) (rightF l[i] (g i) s).2 else (false, (rightF l[i] (g i) s).2) := by
  rw [List.drop_eq_getElem_cons hi, List.map_cons, runR]
theorem run_end {l : List Ty} {g : Nat → Bool} {i : Nat} {s : St} (hi : l.length ≤ i) : runR ((l.drop i).map rightF) g i s = (true, s) := by
  rw [List.drop_eq_nil_of_le hi]; rfl
end Rw
