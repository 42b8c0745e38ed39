/- Rules for walking a Go function's code, part thirteen: a loop over a function. No program in sight. -/
import Derived.Test.YtohfnpmehgpphaaBox
import Derived.Test.YtohfnpmehgpphaaDraw
import Derived.RangeFuncWrites
import Derived.RangeFuncLeaves
namespace Rw
open Go Go.RowKit

/-- A part of a variable. -/
theorem At.drop {M : Nat → Prop} {w : World} {b off : Nat} {cs sub : List Value} (h : At M w b off cs) (k : Nat) (hs : cs.drop k = sub) (j : Nat) (v : Value) (hv : sub[j]? = some v) : w.cell? ⟨b, off + k + j, none⟩ = some v := by
  subst hs
  rw [List.getElem?_drop] at hv
  have := h.cell (k + j) v hv
  rwa [← Nat.add_assoc] at this
theorem Box.drop {w : World} {b t : Nat} {cs sub : List Value} (h : Box w b t cs) (k : Nat) (hs : cs.drop k = sub) (j : Nat) (v : Value) (hv : sub[j]? = some v) : w.cell? ⟨b, 0 + k + j, none⟩ = some v := by
  subst hs
  rw [List.getElem?_drop] at hv
  have := h.cell (k + j) v hv
  rwa [← Nat.add_assoc] at this
theorem OAt.drop {w : World} {b off : Nat} {cs sub : List Value} (h : OAt w b off cs) (k : Nat) (hs : cs.drop k = sub) (j : Nat) (v : Value) (hv : sub[j]? = some v) : w.cell? ⟨b, off + k + j, none⟩ = some v := by
  subst hs
  rw [List.getElem?_drop] at hv
  have := h.cell (k + j) v hv
  rwa [← Nat.add_assoc] at this

/-! ## Rounds' frames -/

/-- Any function, any depth; in the round of a loop, or in none. -/
def Fr : Option Nat → Fence
  | none => Fence.wide
  | some l => Fence.wide.inRound l
theorem fr_fn (r : Option Nat) (f : FuncId) : (Fr r).fn f := by cases r <;> trivial
theorem fr_depth (r : Option Nat) (p : Prop) : (Fr r).depth.isSome = true → p := by cases r <;> intro h <;> simp [Fr, Fence.wide] at h
theorem callsFr {r : Option Nat} {n : Nat} {P : Program} {f : FuncId} {args : Array Value} {w : World} {R : Ending → World → Prop} (h : Calls P f args w R) : CallsIn (Fr r) n P f args w R := by
  cases r with
  | none => exact callsIn_wide.2 h
  | some l => exact (callsIn_wide (n := n)).2 h
theorem rowsFr {r : Option Nat} {n : Nat} {P : Program} {row : String} {args : Array Value} {w : World} {R : Value → World → Prop} (h : Rows P row args w R) : RowsIn (Fr r) n P row args w R := by
  have key : RowsIn Fence.wide n P row args w R := fun c cs _ => let ⟨v, w', h1, h2⟩ := h c cs; ⟨v, w', h1, stepsIn_wide.2 h2⟩
  cases r with
  | none => exact key
  | some l => exact key

/-- It doesn't put off a call. -/
def noDef (o : Oper) : Bool := match o.op with
  | .defer _ => false
  | _ => true
theorem noDef_ne {o : Oper} (h : noDef o = true) : ∀ c, o.op ≠ .defer c := fun c e => by simp [noDef, e] at h

/-- With these deferred calls. -/
def wd (ds : List Deferred) (a : Act) : Act := { a with defers := ds }
theorem wd_put (ds : List Deferred) (a : Act) (d : Option Nat) (v : Value) : (wd ds a).put d v = wd ds (a.put d v) := by cases d <;> rfl
theorem wd_nil {a : Act} (h : a.defers = []) : wd [] a = a := by cases a; simp only at h; subst h; rfl
theorem put_defers (a : Act) (d : Option Nat) (v : Value) : (a.put d v).defers = a.defers := by cases d <;> rfl

section
variable {P : Program} {r : Option Nat} {m : Nat} {ds : List Deferred} {ops : Array Oper}

theorem oper_fr {o : Oper} {a : Act} {w : World} {next next' : Act → World → Prop} {Q Q' : Exit → Act → World → Prop} (hd : noDef o = true)
    (hn : ∀ a' w', next a' w' → a'.defers = [] ∧ next' (wd ds a') w') (hq : ∀ c w', Q (.panic c) a w' → Q' (.panic c) (wd ds a) w') (ho : ¬ LetsOut Q) (h : o.wp P a w next Q) : o.wpIn (Fr r) m P (wd ds a) w next' Q' := by
  refine ⟨fun f _ => fr_fn r f, ?_⟩
  rw [Oper.semAt_eq _ _ _ (noDef_ne hd), show (wd ds a).eval = a.eval from rfl]
  unfold Oper.wp at h
  generalize (execOp a.eval o).run P w = res at h
  cases res with
  | ok nx w' =>
    cases nx with
    | value v => rw [Oper.uponIn_value, wd_put]; exact (hn _ _ h).2
    | skip => rw [Oper.uponIn_skip, wd_put]; exact (hn _ _ h).2
    | defer d =>
      have h1 := (hn _ _ h).1
      rw [put_defers] at h1
      cases h1
    | enter f args =>
      rw [Oper.uponIn_enter]
      refine ⟨fr_depth r _, callsFr (Calls.mono h fun e w'' he => ?_)⟩
      cases e with
      | returned v => show next' _ _; rw [wd_put]; exact (hn _ _ he).2
      | panicked c => exact hq c _ he
      | outgrown => exact absurd he ho
    | row row args =>
      rw [Oper.uponIn_row]
      exact ⟨fr_depth r _, rowsFr (Rows.mono h fun v w'' he => by rw [wd_put]; exact (hn _ _ he).2)⟩
    | _ => exact h.elim
  | halt hlt w' =>
    cases hlt with
    | panic v => exact hq _ _ h
    | _ => exact h.elim

theorem ops_defers {Q : Exit → Act → World → Prop} (hQ : ∀ e a w, Q e a w → a.defers = []) (ho : ¬ LetsOut Q) : ∀ (l : List Nat) (a : Act) (w : World), wpOps P ops Q l a w → a.defers = []
  | [], a, w, h => hQ _ _ _ h
  | i :: rest, a, w, h => by
    have ih := ops_defers hQ ho rest
    unfold wpOps at h
    split at h
    · exact ih _ _ h
    · rename_i o _
      split at h
      · have h1 := h.resolve_right (fun x => ho x.2)
        unfold Oper.wp at h1
        generalize (execOp a.eval o).run P w = res at h1
        cases res with
        | ok nx w' =>
          cases nx with
          | value v => have := ih _ _ h1; rwa [put_defers] at this
          | skip => have := ih _ _ h1; rwa [put_defers] at this
          | defer d => have := ih _ _ h1; rw [put_defers] at this; cases this
          | enter f args =>
            obtain ⟨e, w'', fr, hR, _⟩ := h1 []
            cases e with
            | returned v => have := ih _ _ hR; rwa [put_defers] at this
            | panicked c => exact hQ _ _ _ hR
            | outgrown => exact absurd hR ho
          | row row args =>
            obtain ⟨v, w'', hR, _⟩ := h1 default []
            have := ih _ _ hR; rwa [put_defers] at this
          | _ => exact h1.elim
        | halt hlt w' =>
          cases hlt with
          | panic v => exact hQ _ _ _ h1
          | _ => exact h1.elim
      · have := ih _ _ h; rwa [put_defers] at this

theorem ops_fr {Q Q' : Exit → Act → World → Prop} (hd : ops.all noDef = true) (hQ : ∀ e a w, Q e a w → a.defers = [] ∧ Q' e (wd ds a) w) (ho : ¬ LetsOut Q) : ∀ (l : List Nat) (a : Act) (w : World), wpOps P ops Q l a w → wpOpsIn (Fr r) m P ops Q' l (wd ds a) w
  | [], a, w, h => (hQ _ _ _ h).2
  | i :: rest, a, w, h => by
    have ih := ops_fr hd hQ ho rest
    have id := ops_defers (P := P) (ops := ops) (fun e a w h => (hQ e a w h).1) ho rest
    unfold wpOps at h
    unfold wpOpsIn
    split at h
    · rename_i hi; rw [hi]; exact ih _ _ h
    · rename_i o hi
      rw [hi]
      simp only
      have hdo : noDef o = true := by
        rw [Array.all_eq_true'] at hd
        exact hd o (Array.mem_of_getElem? hi)
      rw [show (wd ds a).tmps = a.tmps from rfl]
      split at h
      · rename_i hw
        rw [if_pos hw]
        exact oper_fr hdo (fun a' w' h' => ⟨id _ _ h', ih _ _ h'⟩) (fun c w' h' => (hQ _ _ _ h').2) ho (h.resolve_right (fun x => ho x.2))
      · rename_i hw
        rw [if_neg hw]
        refine ⟨fun f _ => fr_fn r f, ?_⟩
        rw [wd_put]; exact ih _ _ h

theorem all_arr {ol : List Oper} (h : ol.all noDef = true) : ol.toArray.all noDef = true := by simpa using h

/-! ## Regions in a round's frame -/

/-- What is asked behind a region: it ends, and then. -/
def Ends (K : Act → World → Prop) : Exit → Act → World → Prop := fun e a w => e = .normal ∧ a.defers = [] ∧ K a w
theorem ends_out (K : Act → World → Prop) : ¬ LetsOut (Ends K) := fun ⟨_, _, h, _⟩ => by cases h

theorem ri_any {n : Nat} {id : Nat} {ol : List Oper} {K : Act → World → Prop} {Q : Exit → Act → World → Prop} {G : Env} {w : World} (S : World → World → Prop) (hm : P.follows .mixedOrders = true) (hd : ol.all noDef = true) (hq : ∀ a w, K a w → Q .normal (wd ds a) w)
    (h : ∀ w', Ext w w' → WA P n ol.toArray (Ends K) (S w') G w' ol.toArray.size []) : ∀ a, Models n a G → (Code.region id ol.toArray true).wpIn (Fr r) m P Q (wd ds a) w := by
  intro a ha
  refine wpIn_region_draw fun t => ?_
  simp only [Region.schedule, hm, Bool.true_or, if_true]
  exact ops_fr (all_arr hd) (fun e a w h => ⟨h.2.1, by obtain ⟨rfl, _, h⟩ := h; exact hq _ _ h⟩) (ends_out K) _ _ _ (wpAny_sound ol.toArray.size t _ a _ (wpAny_of_B _ (S w.drew) _ _ _ (by simpa [lst] using h w.drew (ext_drew w) a ha)))
theorem ri_reg {n : Nat} {id : Nat} {ol : List Oper} {K : Act → World → Prop} {Q : Exit → Act → World → Prop} {G : Env} {w : World} (hd : ol.all noDef = true) (hq : ∀ a w, K a w → Q .normal (wd ds a) w)
    (h : WL P n ol.toArray (Ends K) G w ol) : ∀ a, Models n a G → (Code.region id ol.toArray false).wpIn (Fr r) m P Q (wd ds a) w := by
  intro a ha
  refine wpIn_region (ops_fr (all_arr hd) (fun e a w h => ⟨h.2.1, by obtain ⟨rfl, _, h⟩ := h; exact hq _ _ h⟩) (ends_out K) _ _ _ ?_)
  rw [List.range_eq_range', ← Array.length_toList, wpOps_eq_wpList ol.toArray.toList 0 (by simp)]
  simpa using h a ha

theorem ri_any0 {n : Nat} {id : Nat} {ol : List Oper} {K : Act → World → Prop} {Q : Exit → Act → World → Prop} {G : Env} {w : World} (S : World → World → Prop) (hm : P.follows .mixedOrders = true) (hd : ol.all noDef = true) (hq : ∀ a w, K a w → Q .normal a w)
    (h : ∀ w', Ext w w' → WA P n ol.toArray (Ends fun a w => a.defers = [] ∧ K a w) (S w') G w' ol.toArray.size []) : ∀ a, Models n a G → (Code.region id ol.toArray true).wpIn (Fr r) m P Q a w := fun a ha => by
  have := ri_any (r := r) (m := m) (ds := []) (Q := Q) (id := id) S hm hd (fun a w h => by rw [wd_nil h.1]; exact hq a w h.2) h a ha
  rwa [wd_nil ha.defers] at this
theorem ri_reg0 {n : Nat} {id : Nat} {ol : List Oper} {K : Act → World → Prop} {Q : Exit → Act → World → Prop} {G : Env} {w : World} (hd : ol.all noDef = true) (hq : ∀ a w, K a w → Q .normal a w)
    (h : WL P n ol.toArray (Ends fun a w => a.defers = [] ∧ K a w) G w ol) : ∀ a, Models n a G → (Code.region id ol.toArray false).wpIn (Fr r) m P Q a w := fun a ha => by
  have := ri_reg (r := r) (m := m) (ds := []) (Q := Q) (id := id) hd (fun a w h => by rw [wd_nil h.1]; exact hq a w h.2) h a ha
  rwa [wd_nil ha.defers] at this

/-! ## A region in which yield is called -/

def WI (P : Program) (n : Nat) (m : Nat) (ops : Array Oper) (Q : Exit → Act → World → Prop) (G : Env) (w : World) (l : List Nat) : Prop := ∀ a, Models n a G → wpOpsIn (Fr none) m P ops Q l a w
theorem li_nil {n : Nat} {Q : Exit → Act → World → Prop} {G : Env} {w : World} (h : WX n Q G w .normal) : WI P n m ops Q G w [] := fun a ha => h a ha
theorem li_cons {n : Nat} {Q : Exit → Act → World → Prop} {G : Env} {w : World} {i : Nat} {l : List Nat} {o : Oper} (hi : ops[i]? = some o) (hd : noDef o = true) (ho : ¬ LetsOut Q) (h : OW P n ops Q G w o (fun G' w' => WI P n m ops Q G' w' l)) : WI P n m ops Q G w (i :: l) := by
  intro a ha
  have h1 := h a ha (fun a' w' => a'.defers = [] ∧ wpOpsIn (Fr none) m P ops Q l a' w') (fun G' w' hk a' ha' => ⟨ha'.defers, hk a' ha'⟩)
  unfold wpOpsIn
  rw [hi]
  simp only
  split at h1
  · rename_i hw
    rw [if_pos hw]
    have := oper_fr (r := none) (m := m) (ds := []) (next' := wpOpsIn (Fr none) m P ops Q l) (Q' := Q) hd (fun a' w' h' => ⟨h'.1, by rw [wd_nil h'.1]; exact h'.2⟩) (fun c w' h' => by rw [wd_nil ha.defers]; exact h') ho h1
    rwa [wd_nil ha.defers] at this
  · rename_i hw
    rw [if_neg hw]
    exact ⟨fun f _ => fr_fn none f, h1.2⟩
/-- A call of yield. -/
theorem li_yield {n : Nat} {Q : Exit → Act → World → Prop} {G : Env} {w : World} {i k : Nat} {l : List Nat} {d ty : Nat} {x : Operand} {args : Array Operand} {tys : Array TypeId} {pos : String} {af : Array Edge} {vs : List Value} {R : Ending → World → Prop} (hi : ops[i]? = some ⟨some d, .call ⟨.value x, args, tys⟩, ty, pos, af, none⟩)
    (hx : Env.ev G x = some (.func (.yield k) #[] #[])) (hv : Env.evs G args.toList = some vs) (hdn : Nat.blt d n = true) (hy : YieldAt (Fr none) (m - 1) P k vs.toArray w R) (h : ∀ e w', R e w' → ∃ b, e = .returned (.bool b) ∧ WI P n m ops Q ((d, .bool b) :: G) w' l) : WI P n m ops Q G w (i :: l) := by
  intro a ha
  obtain ⟨fn, tmps, assign, body, hrun, hround⟩ := hy
  unfold wpOpsIn
  rw [hi]
  simp only
  rw [if_pos (by simp [Region.wanted])]
  refine ⟨fun f _ => fr_fn none f, ?_⟩
  have e : args.map a.eval = vs.toArray := array_of_toList (by simp [ha.evs hv])
  have hr : (Oper.semAt (Fr none).round a.eval ⟨some d, .call ⟨.value x, args, tys⟩, ty, pos, af, none⟩).run P w = .ok (.round k fn tmps assign body) w := by
    rw [Oper.semAt_eq _ _ _ (by intro c h; cases h)]
    simp [execOp, resolve, e, Deferred.ofValue, ha.ev hx, invoke, hrun]
  rw [hr, Oper.uponIn_round]
  refine ⟨fr_depth none _, hround.mono fun en w' he => ?_⟩
  obtain ⟨b, rfl, hK⟩ := h en w' he
  exact hK _ (ha.put hdn _)
theorem c_regI {n : Nat} {id : Nat} {Q : Exit → Act → World → Prop} {G : Env} {w : World} {ol : List Oper} {l : List Nat} (hl : l = List.range ol.toArray.size) (h : WI P n m ol.toArray Q G w l) : WC P n Q G w (.region id ol.toArray false) :=
  fun a ha => (wpIn_wide (n := m)).1 (wpIn_region (by rw [← hl]; exact h a ha))
end

/-! ## What an iterator does: it hands these things to yield, one by one -/

def IterOk (P : Program) (m : Nat) (gf : Nat) (lb : Array Value) (xs : List (Value × Value)) (Kp : World → World → Prop) (w0 : World) : Prop :=
  ∀ (l : Nat) (J : Nat → World → Prop) (W : World), Kp w0 W → (∀ k x W1, J k W1 → xs[k]? = some x → YieldAt (Fr none) (m - 1) P l #[x.1, x.2] W1 fun e W' => e = .returned (.bool true) ∧ J (k + 1) W' ∧ Kp W1 W') → J 0 W →
    Calls P gf (#[.func (.yield l) #[] #[]] ++ lb) W (Ret fun _ W' => J xs.length W')

/-- for p1, p2 := range g {..} : no round leaves it. -/
theorem range_wp {P : Program} {n m N : Nat} {g : Operand} {p1 p2 : Nat} {assign body : Code} {Q : Exit → Act → World → Prop} {G : Env} {w : World} {gf : Nat} {lb : Array Value} {xs : List (Value × Value)} {I : Nat → World → Prop} {Kp : World → World → Prop}
    (hg : Env.ev G g = some (.func (.func gf) #[] lb)) (hf : FnOk P gf) (hp1 : Nat.blt p1 n = true) (hp2 : Nat.blt p2 n = true) (hit : IterOk P m gf lb xs Kp w)
    (hKt : ∀ A B C, Kp A B → Kp B C → Kp A C) (hKp : ∀ W l o', w.heap.size ≤ l → Kp W (W.putObj l o')) (hKa : ∀ W o, w.heap.size ≤ W.heap.size → Kp W (W.alloc o))
    (h0 : I 0 w) (hIa : ∀ W o, I 0 W → I 0 (W.alloc o)) (hIp : ∀ k W l o o', I k W → w.heap.size ≤ l → W.heap[l]? = some o → o.isCells = false → I k (W.putObj l o'))
    (rnd : ∀ k x W l, I k W → xs[k]? = some x → ∀ a, Models n a ((p2, x.2) :: (p1, x.1) :: G) →
      assign.wpIn (Fr (some l)) (m - 1) P (fun e a1 w1 => e = .normal ∧ KeepsFrom w.heap.size W w1 ∧ Kp W w1 ∧ ∀ o o', w.heap.size ≤ l → w1.heap[l]? = some o → o.isCells = false →
        body.wpIn (Fr (some l)) (m - 1) P (fun e _ w3 => e = .normal ∧ KeepsFrom w.heap.size (w1.putObj l o') w3 ∧ Kp (w1.putObj l o') w3 ∧ I (k + 1) w3) a1 (w1.putObj l o')) a W)
    (done : ∀ a D W, Models n a G → w.heap.size ≤ D → I xs.length W → W.heap[D]? = some (.deferred (some [])) → Q .normal (wd [{ target := .collected D, args := #[] }] a) W) :
    ∀ a, Models n a G → (Code.rangeFunc g #[p1, p2] assign body).wpIn (Fr none) N P Q a w := by
  intro a ha
  refine wpIn_rangeFunc fun fn _ => ?_
  obtain ⟨rec, hrec⟩ : ∃ rec : LoopState → Option Code → Loop, rec = fun st pe => { state := st, pending := pe, fn, tmps := a.tmps, params := #[p1, p2], assign, body, defers := w.heap.size } := ⟨_, rfl⟩
  obtain ⟨W1, hW1⟩ : ∃ W1, (w.alloc (.deferred (some []))).alloc (.loop (rec .ready none)) = W1 := ⟨_, rfl⟩
  have hL1 : W1.heap[w.heap.size + 1]? = some (.loop (rec .ready none)) := by
    rw [← hW1]
    have := World.alloc_heap_new (w.alloc (.deferred (some []))) (.loop (rec .ready none))
    rwa [World.size_alloc] at this
  have hD1 : W1.heap[w.heap.size]? = some (.deferred (some [])) := by
    rw [← hW1]
    exact (Below.heap_alloc _ _ _ (by simp)).trans (World.alloc_heap_new w _)
  have hI1 : I 0 W1 := by rw [← hW1]; exact hIa _ _ (hIa _ _ h0)
  have hK1 : Kp w W1 := by rw [← hW1]; exact hKt _ _ _ (hKa _ _ (Nat.le_refl _)) (hKa _ _ (by simp))
  refine ⟨w.heap.size + 1, [{ target := .collected w.heap.size, args := #[] }], W1, { target := .fn (.func gf) lb, args := #[.func (.yield (w.heap.size + 1)) #[] #[]] }, W1, gf,
    #[.func (.yield (w.heap.size + 1)) #[] #[]] ++ lb, W1, ?_, ?_, fun _ _ => fr_fn _ _, ?_, fr_depth _ _, ?_⟩
  · rw [← hW1, hrec]; exact run_enterLoop_outer _ _ _ _ _
  · simp only [resolve, ha.ev hg]
    simp [go_sem]
  · simp [invoke, go_sem, run_callFunc_ok hf]
  · refine callsFr ((hit (w.heap.size + 1) (fun k W => I k W ∧ W.heap[w.heap.size + 1]? = some (.loop (rec .ready none)) ∧ W.heap[w.heap.size]? = some (.deferred (some []))) W1 hK1 ?_ ⟨hI1, hL1, hD1⟩).mono ?_)
    · rintro k x W ⟨hi, hl, hd⟩ hx
      have hlt : w.heap.size + 1 < W.heap.size := (Array.getElem?_eq_some_iff.1 hl).1
      have hy := run_yield (P := P) (args := #[x.1, x.2]) hl (by rw [hrec]; rfl)
      rw [hrec] at hy
      refine ⟨fn, _, assign, body, hy, roundIn_of_wpIn (F := Fr none) (fr_fn _ _) ?_⟩
      have hm : Models n { tmps := (a.tmps.setIfInBounds p1 x.1).setIfInBounds p2 x.2, defers := [] } ((p2, x.2) :: (p1, x.1) :: G) := by
        have := (ha.put hp1 x.1).put hp2 x.2
        refine ⟨?_, rfl, ?_⟩
        · simpa [Act.put] using this.size
        · intro q v hq
          simpa [Act.put] using this.val q v hq
      have hr := rnd k x W (w.heap.size + 1) hi hx _ hm
      have et : (#[p1, p2].zip #[x.1, x.2]).foldl (fun (tmps : Array Value) (x : Nat × Value) => tmps.setIfInBounds x.1 x.2) a.tmps = (a.tmps.setIfInBounds p1 x.1).setIfInBounds p2 x.2 := by simp
      rw [← et] at hr
      refine wpIn_mono (F := Fr (some (w.heap.size + 1))) hr ?_
      rintro e a1 w1 ⟨rfl, hkf, hkp, hb⟩
      have hl1 := hkf.same _ _ (by omega) hl rfl
      have hd1 := hkf.same _ _ (Nat.le_refl _) hd rfl
      refine ⟨_, run_beginRound hl1 (by rw [hrec]), ?_⟩
      have hlt1 := (Array.getElem?_eq_some_iff.1 hl1).1
      have hl2 : (w1.putObj (w.heap.size + 1) (.loop { rec .ready none with state := .busy })).heap[w.heap.size + 1]? = some (.loop { rec .ready none with state := .busy }) := World.putObj_heap_same hlt1
      have hd2 : (w1.putObj (w.heap.size + 1) (.loop { rec .ready none with state := .busy })).heap[w.heap.size]? = some (.deferred (some [])) := (World.putObj_heap_other (by omega)).trans hd1
      refine wpIn_mono (F := Fr (some (w.heap.size + 1))) (hb _ _ (by omega) hl1 rfl) ?_
      rintro e a3 w3 ⟨rfl, hkf3, hkp3, hi3⟩
      have hl3 := hkf3.same _ _ (by omega) hl2 rfl
      have hd3 := hkf3.same _ _ (Nat.le_refl _) hd2 rfl
      have hend := run_endRound (P := P) none hl3
      rw [hrec] at hend
      refine ⟨_, _, hend, rfl, ⟨hIp _ _ _ _ _ hi3 (by omega) hl3 rfl, ?_, (World.putObj_heap_other (by omega)).trans hd3⟩, ?_⟩
      · rw [hrec]; exact World.putObj_heap_same (Array.getElem?_eq_some_iff.1 hl3).1
      · exact hKt _ _ _ (hKt _ _ _ (hKt _ _ _ hkp (hKp _ _ _ (by omega))) hkp3) (hKp _ _ _ (by omega))
    · rintro e W2 hr
      cases e with
      | returned v =>
        obtain ⟨hi, hl, hd⟩ := hr
        refine ⟨none, W2.putObj (w.heap.size + 1) (.loop { rec .ready none with state := .exhausted }), ?_, ?_⟩
        · have := run_endLoop (P := P) hl (by rw [hrec]; simp)
          rw [hrec] at this ⊢
          exact this
        · have hdd := done a w.heap.size _ ha (Nat.le_refl _) (hIp _ _ _ _ (.loop { rec .ready none with state := .exhausted }) hi (by omega) hl rfl) ((World.putObj_heap_other (by omega)).trans hd)
          have e1 : wd [{ target := .collected w.heap.size, args := #[] }] a = { a with defers := [{ target := .collected w.heap.size, args := #[] }] ++ a.defers } := by
            rw [ha.defers]; rfl
          rw [e1] at hdd
          exact hdd
      | panicked c => exact hr.elim
      | outgrown => exact hr.elim

/-- A function with a loop over a function. -/
theorem c_enterM {P : Program} {n m : Nat} {f : FuncId} {fn : Func} {c : Code} {args : Array Value} {w : World} {R : Value → World → Prop} (hf : P.funcs[f]? = some fn) (hb : fn.body = some c) (hn : fn.ntmps = n) (hs : Nat.ble args.size n = true)
    (h : WC P n (bodyPostM (Fr none) m P fn (Ret R)) (argEnv 0 args.toList) w c) : Calls P f args w (Ret R) := by
  refine (callsIn_wide (n := m)).1 (callsIn_of_wp_marks hf hb (fr_fn none f) ((wpIn_wide (n := m)).2 (h _ ⟨?_, rfl, fun k v hv => ?_⟩)) rfl)
  · have hs' : args.size ≤ n := by simpa using hs
    simp [hn]; omega
  · obtain ⟨_, h2⟩ := argEnv_get _ _ _ _ hv
    simp only [Nat.sub_zero, Array.getElem?_toList] at h2
    have hlt : k < args.size := (Array.getElem?_eq_some_iff.1 h2).1
    rw [Array.getElem?_append_left hlt]
    exact h2
theorem c_range {P : Program} {n N : Nat} {Q : Exit → Act → World → Prop} {G : Env} {w : World} {c : Code} (h : ∀ a, Models n a G → c.wpIn (Fr none) N P Q a w) : WC P n Q G w c := fun a ha => (wpIn_wide (n := N)).1 (h a ha)
/-- Its end: the mark is taken. -/
theorem m_ret {P : Program} {m : Nat} {fn : Func} {R : Value → World → Prop} {a : Act} {D : Nat} {w : World} (hD : w.heap[D]? = some (.deferred (some []))) (h : bodyPost P fn (Ret R) .ret a (w.putObj D (.deferred none))) :
    bodyPostM (Fr none) m P fn (Ret R) .ret (wd [{ target := .collected D, args := #[] }] a) w :=
  ⟨by simp, .inl ⟨_, _, rfl, run_takeDeferred hD, h.2⟩⟩

/-! ## Blocks that hold no cells -/

theorem put_cell {W : World} {l : Nat} {o o' : Obj} {p : Addr} {v : Value} (hl : W.heap[l]? = some o) (hc : o.isCells = false) (h : W.cell? p = some v) : (W.putObj l o').cell? p = some v :=
  cell_kept h (grownBy_putObj' W l o') (fun r e => by cases e; exact ⟨o, hl, hc⟩)
theorem put_at {M : Nat → Prop} {W : World} {l b off : Nat} {o o' : Obj} {cs : List Value} (hl : W.heap[l]? = some o) (hc : o.isCells = false) (h : At M W b off cs) : At M (W.putObj l o') b off cs :=
  ⟨by simpa using h.lt, h.nM, fun j v hv => put_cell hl hc (h.cell j v hv)⟩
theorem put_box {W : World} {l b t : Nat} {o o' : Obj} {cs : List Value} (hl : W.heap[l]? = some o) (hc : o.isCells = false) (h : Box W b t cs) : Box (W.putObj l o') b t cs := by
  refine ⟨(World.putObj_heap_other fun e => ?_).trans h.heap⟩
  have hb := h.heap
  rw [e, hl] at hb
  cases hb
  cases hc
theorem put_keeps {B : Nat} {W : World} {l : Nat} {o o' : Obj} (hl : W.heap[l]? = some o) (hc : o.isCells = false) {M : Nat → Prop} {b t : Nat} {cs : List Value} (h : MB B M W b t cs) : MB B M (W.putObj l o') b t cs := ⟨put_box hl hc h.box, h.inM, h.ge⟩
theorem put_low {M : Nat → Prop} {W : World} {l : Nat} {o' : Obj} (h : Low M W) : Low M (W.putObj l o') := fun b hb => by simpa using h b hb
theorem put_below {n : Nat} {w0 W : World} {l : Nat} {o' : Obj} (h : Below n w0 W) (hn : n ≤ l) (hs : n ≤ W.heap.size) : Below n w0 (W.putObj l o') := h.grown (grownBy_putObj' W l o') hs (fun k e => by cases e; exact hn)
theorem ext_keeps {B : Nat} {W W' : World} (h : Ext W W') : KeepsFrom B W W' := ⟨h.size, fun k _ _ hk _ => (h.block k (Array.getElem?_eq_some_iff.1 hk).1).trans hk⟩
theorem updb_keeps {B b t : Nat} {W W' : World} {cs : List Value} (h : UpdB b W W') (hb : Box W b t cs) : KeepsFrom B W W' := ⟨h.upd.1, fun k o _ hk hc => by
  refine (h.upd.2 k (Array.getElem?_eq_some_iff.1 hk).1 fun e => ?_).trans hk
  subst e
  rw [hb.heap] at hk
  cases hk
  cases hc⟩

/-- A slice's elements: where they lie, and their values. -/
theorem sl_choose {α : Type} [Rep α] {M : Nat → Prop} {w : World} {v : Value} {l : List α} (h : Sl M w v l) : ∃ (bs off cap : Nat) (us : Nat → Value), ∀ i x, l[i]? = some x → v = .slice (some ⟨bs, off, none⟩) l.length cap ∧ Rep.R M w (us i) x ∧ At M w bs (off + i * Rep.sz α) (us i).cells.toList := by
  obtain ⟨a, cap, rfl, _, _, he⟩ := h
  rcases he with he | ⟨bs, off, rfl, hel⟩
  · subst he
    exact ⟨0, 0, 0, fun _ => .nilFunc, fun i x hx => by simp at hx⟩
  · have key : ∀ i : Nat, ∃ u : Value, ∀ x, l[i]? = some x → Rep.R M w u x ∧ At M w bs (off + i * Rep.sz α) u.cells.toList := fun i => by
      cases hi : l[i]? with
      | none => exact ⟨.nilFunc, fun x hx => by cases hx⟩
      | some x =>
        obtain ⟨u, h1, h2⟩ := hel i x hi
        exact ⟨u, fun y hy => by cases hy; exact ⟨h1, h2⟩⟩
    obtain ⟨us, hus⟩ := Classical.axiomOfChoice key
    exact ⟨bs, off, cap, us, fun i x hx => ⟨rfl, hus i x hx⟩⟩
theorem alloc_at {M : Nat → Prop} {W : World} {b off : Nat} {o : Obj} {cs : List Value} (h : At M W b off cs) : At M (W.alloc o) b off cs := h.ext (ext_alloc W o)
/-! ## A part of an element of a slice of the call's own; slices that won't be written any more -/

section
variable {P : Program} {T : Tab} {n : Nat} {ops : Array Oper} {Q : Exit → Act → World → Prop} {G : Env} {w : World} {K : Env → World → Prop}
  {ty : Nat} {pos : String} {af : Array Edge} {g : Option (Nat × Bool)}
theorem splice_in (c u x : List Value) (o k : Nat) (hu : ∀ j v, u[j]? = some v → c[o + j]? = some v) (hk : k + x.length ≤ u.length) (ho : o + u.length ≤ c.length) :
    c.take (o + k) ++ x ++ c.drop (o + k + x.length) = c.take o ++ (u.take k ++ x ++ u.drop (k + x.length)) ++ c.drop (o + u.length) := by
  apply List.ext_getElem?
  intro i
  have t1 : (c.take (o + k)).length = o + k := by rw [List.length_take]; omega
  have t2 : (c.take o).length = o := by rw [List.length_take]; omega
  have t3 : (u.take k).length = k := by rw [List.length_take]; omega
  have hcu : ∀ j, j < u.length → u[j]? = c[o + j]? := fun j hj => by rw [List.getElem?_eq_getElem hj]; exact (hu j _ (List.getElem?_eq_getElem hj)).symm
  have hL : (c.take (o + k) ++ x ++ c.drop (o + k + x.length))[i]? = if i < o + k then c[i]? else if i < o + k + x.length then x[i - (o + k)]? else c[i]? := by
    rw [List.append_assoc]
    split
    · rw [List.getElem?_append_left (by omega), List.getElem?_take, if_pos (by assumption)]
    · rw [List.getElem?_append_right (by omega), t1]
      split
      · rw [List.getElem?_append_left (by omega)]
      · rw [List.getElem?_append_right (by omega), List.getElem?_drop]
        congr 1; omega
  have hY : ∀ q, (u.take k ++ x ++ u.drop (k + x.length))[q]? = if q < k then u[q]? else if q < k + x.length then x[q - k]? else u[q]? := fun q => by
    rw [List.append_assoc]
    split
    · rw [List.getElem?_append_left (by omega), List.getElem?_take, if_pos (by assumption)]
    · rw [List.getElem?_append_right (by omega), t3]
      split
      · rw [List.getElem?_append_left (by omega)]
      · rw [List.getElem?_append_right (by omega), List.getElem?_drop]
        congr 1; omega
  have l1 : (u.take k ++ x ++ u.drop (k + x.length)).length = u.length := by simp; omega
  have hR : (c.take o ++ (u.take k ++ x ++ u.drop (k + x.length)) ++ c.drop (o + u.length))[i]? = if i < o then c[i]? else if i < o + u.length then (u.take k ++ x ++ u.drop (k + x.length))[i - o]? else c[i]? := by
    rw [List.append_assoc (c.take o)]
    split
    · rw [List.getElem?_append_left (by omega), List.getElem?_take, if_pos (by assumption)]
    · rw [List.getElem?_append_right (by omega), t2]
      split
      · rw [List.getElem?_append_left (by omega)]
      · rw [List.getElem?_append_right (by omega), l1, List.getElem?_drop]
        congr 1; omega
  rw [hL, hR, hY]
  repeat' split
  all_goals first | rfl | (exfalso; omega) | (rw [hcu _ (by omega)]; congr 1; omega) | (congr 1; omega)

/-- A store of a part of an element into a slice of the call's own: u its cells ahead of it, y its value behind it. -/
theorem o_stP {t e B : Nat} {x y : Operand} {b o j k : Nat} {α : Type} [Rep α] {M : Nat → Prop} {v vx u : Value} {l : List α} {z : α} {us : List Value} {te tx : TI} (hT : TabOk P T) (hs : OwnSl e B M w v l) (hb : v.ownBlock = some b) (hj : j < l.length) (hat : ∀ q a, us[q]? = some a → w.cell? ⟨b, j * te.size + q, none⟩ = some a) (husl : us.length = te.size) (hR : Rep.R M w u z) (hl : Low M w)
    (hx : Env.ev G x = some (.pointer (some ⟨b, o, none⟩))) (ho : o = j * te.size + k) (hy : Env.ev G y = some vx) (ht : T.get t = some tx) (hte : T.get e = some te) (hsz : te.size = Rep.sz α) (hvx : vx.cells.size = tx.size) (hone : ∀ a ∈ vx.cells.toList, a.oneCell' = true) (hk : k + tx.size ≤ te.size)
    (hu : u.cells.toList = us.take k ++ vx.cells.toList ++ us.drop (k + vx.cells.toList.length))
    (hg : gd ops G ⟨none, .store t x y, ty, pos, af, g⟩ = some true)
    (h : ∀ w', OwnSl e B M w' v (l.set j z) → Stp B M M w w' → (∀ k, k < w.heap.size → k ≠ b → w'.heap[k]? = w.heap[k]?) → K G w') : OW P n ops Q G w ⟨none, .store t x y, ty, pos, af, g⟩ K := by
  obtain ⟨vs, hr, hrs⟩ := hs.row
  subst ho
  rcases hr.2 with ⟨rfl, hn⟩ | ⟨b', cap, cur, rfl, hB, hh, hnc, hcm, hcs, htake⟩
  · omega
  simp only [Value.ownBlock, Option.some.injEq] at hb
  subst hb
  have husz : u.cells.size = te.size := by rw [hsz]; exact Rep.size hR
  have hlen : vs.length = l.length := hrs.length
  have hle : (j + 1) * te.size ≤ l.length * te.size := Nat.mul_le_mul_right _ hj
  have hle2 : l.length * te.size ≤ cap * te.size := Nat.mul_le_mul_right _ hnc
  rw [Nat.add_mul, Nat.one_mul] at hle
  have hct0 : cur.toList.length = cap * te.size := by rw [hsz]; simpa using hcs
  have hfit : j * te.size + k + vx.cells.size ≤ cur.size := by rw [hvx, hcs, ← hsz]; omega
  have hrun := run_store_row hT ht hh hvx hone hfit
  have hfitu : j * te.size + u.cells.size ≤ cur.size := by rw [husz, hcs, ← hsz]; omega
  have hM := hs.inM b' rfl
  have hcell : ∀ q a, us[q]? = some a → cur.toList[j * te.size + q]? = some a := fun q a hq => by
    have := hat q a hq
    simp only [World.cell?, hh] at this
    rw [Array.getElem?_toList]
    simpa using this
  have hlv : vx.cells.toList.length = vx.cells.size := by simp
  have hsp := splice_in cur.toList us vx.cells.toList (j * te.size) k hcell (by rw [hlv]; omega) (by omega)
  rw [← hu, husl] at hsp
  have hrow : (cur.toList.take (j * te.size + k) ++ vx.cells.toList ++ cur.toList.drop (j * te.size + k + vx.cells.size)).toArray = (cur.toList.take (j * te.size) ++ u.cells.toList ++ cur.toList.drop (j * te.size + u.cells.size)).toArray := by
    rw [← hlv, hsp, husz]
  rw [hrow] at hrun
  refine o_unit (w' := w.setRow b' (cur.toList.take (j * te.size) ++ u.cells.toList ++ cur.toList.drop (j * te.size + u.cells.size)).toArray) hg rfl (fun a ha => ?_)
    (h _ ⟨⟨vs.set j u, ⟨?_, .inr ⟨b', cap, _, ?_, hB, setRow_heap w b' cur _ e _ hh, ?_, hcm, ?_, ?_⟩⟩, ?_⟩, hs.inM⟩ ?_ (fun k _ hk => setRow_other w b' k _ hk))
  · simp [execOp, ha.ev hx, ha.ev hy, Instr.storeAt, Instr.sureAddr, hrun]
  · have := (hrs.set j hR).flat_length
    rw [this]
  · rw [List.length_set]
  · rw [List.length_set]; exact hnc
  · simp only [List.size_toArray, List.length_append, List.length_take, List.length_drop, Array.length_toList]
    omega
  · rw [List.length_set, flat_set vs hrs.sizes j u (by omega) (by rw [husz, hsz]), ← htake]
    rw [hsz] at hle hle2 husz
    simp only [hsz, husz]
    have hct : cur.toList.length = cap * Rep.sz α := by simpa using hcs
    have hul : u.cells.toList.length = Rep.sz α := by simpa using husz
    have hml : (j + 1) * Rep.sz α ≤ l.length * Rep.sz α := Nat.mul_le_mul_right _ hj
    rw [Nat.add_mul, Nat.one_mul] at hml
    have := take_splice cur.toList u.cells.toList (j * Rep.sz α) (l.length * Rep.sz α) (by rw [hul]; exact hml) (by rw [hct]; exact hle2)
    rw [hul] at this
    rw [this, List.take_take, Nat.min_eq_left (by omega)]
  · exact Rs.set (Rs.upd hrs ⟨by simp, fun k _ hk => setRow_other w b' k _ (fun e => hk (e ▸ hM))⟩) j (Rep.upd hR ⟨by simp, fun k _ hk => setRow_other w b' k _ (fun e => hk (e ▸ hM))⟩)
  · exact ⟨⟨by simp, fun k _ hk => setRow_other w b' k _ (fun e => hk (e ▸ hM))⟩, fun _ _ h => h, fun _ h => h, fun k hk => by simpa using hl k hk, ⟨rfl, rfl, rfl, by simp, fun k hk => setRow_other w b' k _ (by omega)⟩⟩
end

/-- M but for a slice's block: it won't be written any more. -/
def Less (M : Nat → Prop) (v : Value) : Nat → Prop := fun b => M b ∧ v.ownBlock ≠ some b
theorem less_sub {M : Nat → Prop} {v : Value} (b : Nat) (h : Less M v b) : M b := h.1
theorem OwnSl.froze {α : Type} [Rep α] {e B : Nat} {M : Nat → Prop} {w : World} {v : Value} {l : List α} (h : OwnSl e B M w v l) (hl : l.length < 140737488355328) : Sl (Less M v) w v l := by
  obtain ⟨us, hr, hs⟩ := h.row
  have hlt := hr.lt
  rcases hr.2 with ⟨rfl, hn⟩ | ⟨g, cap, cur, rfl, hB, hg, hc, _, _, htake⟩
  · have : l = [] := List.eq_nil_of_length_eq_zero hn
    subst this
    exact sl_nil
  · refine ⟨_, cap, rfl, hl, hc, .inr ⟨g, 0, rfl, fun i x hx => ?_⟩⟩
    obtain ⟨u, hu, hR⟩ := hs.get hx
    refine ⟨u, Rep.wk hR (fun b _ hb => hb.1), (hlt g rfl).2, fun hm => hm.2 rfl, fun j c hc => ?_⟩
    have := hr.cells (g := g) rfl (i * Rep.sz α + j) c (hs.flat_get hu j c hc)
    rw [addr_add] at this
    rwa [show 0 + i * Rep.sz α + j = 0 + (i * Rep.sz α + j) by omega]
theorem MB.less {B : Nat} {M : Nat → Prop} {w : World} {b t : Nat} {cs : List Value} {v : Value} (h : MB B M w b t cs) (hn : ∀ x, v.ownBlock = some x → x ≠ b) : MB B (Less M v) w b t cs := ⟨h.box, ⟨h.inM, fun e => hn _ e rfl⟩, h.ge⟩
theorem OwnSl.mono {α : Type} [Rep α] {e B B' : Nat} {M : Nat → Prop} {w : World} {v : Value} {l : List α} (h : OwnSl e B M w v l) (hB : B' ≤ B) : OwnSl e B' M w v l := by
  obtain ⟨us, hr, hs⟩ := h.row
  refine ⟨⟨us, ⟨hr.1, ?_⟩, hs⟩, h.inM⟩
  rcases hr.2 with hn | ⟨g, cap, cur, h1, h2, rest⟩
  · exact .inl hn
  · exact .inr ⟨g, cap, cur, h1, Nat.le_trans hB h2, rest⟩
theorem Stp.mono {B B' : Nat} {M M' : Nat → Prop} {w w' : World} (h : Stp B M M' w w') (hB : B' ≤ B) : Stp B' M M' w w' := ⟨h.upd, h.wk, h.sub, h.low, Below.mono h.below hB⟩
end Rw
