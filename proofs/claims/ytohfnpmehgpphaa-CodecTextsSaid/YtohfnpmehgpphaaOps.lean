/- Rules for walking a Go function's code, part two: the operations that compute with values, that read memory and that make new memory. No program in sight. -/
import Derived.Test.YtohfnpmehgpphaaCore
namespace Rw
open Go Go.RowKit

/-! ## Worlds -/

abbrev Ext (w w' : World) : Prop := Below w.heap.size w w'
theorem ext_refl (w : World) : Ext w w := Below.refl _ _
theorem Ext.then {a b c : World} (h : Ext a b) (k : Ext b c) : Ext a c := Below.trans h (Below.mono k h.size)
theorem ext_drew (w : World) : Ext w w.drew := (Below.refl _ _).drew
theorem ext_alloc (w : World) (o : Obj) : Ext w (w.alloc o) := (Below.refl _ _).alloc (Nat.le_refl _) o

/-- Blocks that may be written: all are there. -/
def Low (M : Nat → Prop) (w : World) : Prop := ∀ b, M b → b < w.heap.size
theorem Low.ext {M : Nat → Prop} {w w' : World} (h : Low M w) (e : Ext w w') : Low M w' := fun b hb => Nat.lt_of_lt_of_le (h b hb) e.size
def Add (M : Nat → Prop) (b : Nat) : Nat → Prop := fun x => M x ∨ x = b
theorem Low.add {M : Nat → Prop} {w : World} (h : Low M w) {b : Nat} (hb : b < w.heap.size) : Low (Add M b) w := fun x hx => by
  rcases hx with hx | rfl
  · exact h x hx
  · exact hb
def NoM : Nat → Prop := fun _ => False
theorem low_noM (w : World) : Low NoM w := fun _ h => h.elim

/-- Cells that lie in a block that nobody writes. -/
structure At (M : Nat → Prop) (w : World) (b off : Nat) (cs : List Value) : Prop where
  lt : b < w.heap.size
  nM : ¬ M b
  cell : ∀ j v, cs[j]? = some v → w.cell? ⟨b, off + j, none⟩ = some v

theorem At.ext {M : Nat → Prop} {w w' : World} {b off : Nat} {cs : List Value} (h : At M w b off cs) (e : Ext w w') : At M w' b off cs :=
  ⟨Nat.lt_of_lt_of_le h.lt e.size, h.nM, fun j v hv => (e.cell (p := ⟨b, off + j, none⟩) h.lt).trans (h.cell j v hv)⟩
/-- Other blocks may have been written. -/
def Upd (M : Nat → Prop) (w w' : World) : Prop := w.heap.size ≤ w'.heap.size ∧ ∀ b, b < w.heap.size → ¬ M b → w'.heap[b]? = w.heap[b]?
theorem Ext.upd {w w' : World} (h : Ext w w') (M : Nat → Prop) : Upd M w w' := ⟨h.size, fun b hb _ => h.block b hb⟩
theorem At.upd {M : Nat → Prop} {w w' : World} {b off : Nat} {cs : List Value} (h : At M w b off cs) (e : Upd M w w') : At M w' b off cs :=
  ⟨Nat.lt_of_lt_of_le h.lt e.1, h.nM, fun j v hv => (World.cell?_of_block (w := w) (a := ⟨b, off + j, none⟩) (e.2 b h.lt h.nM)).trans (h.cell j v hv)⟩
theorem At.wk {M M' : Nat → Prop} {w : World} {b off : Nat} {cs : List Value} (h : At M w b off cs) (e : ∀ x, x < w.heap.size → M' x → M x) : At M' w b off cs :=
  ⟨h.lt, fun hb => h.nM (e b h.lt hb), h.cell⟩

/-- A block of the call's own, all of it. -/
structure Box (w : World) (b : Nat) (T : Nat) (cs : List Value) : Prop where
  heap : w.heap[b]? = some (.cells cs.toArray T (0, 0))
theorem Box.lt {w : World} {b T : Nat} {cs : List Value} (h : Box w b T cs) : b < w.heap.size := (Array.getElem?_eq_some_iff.1 h.heap).1
theorem Box.cell {w : World} {b T : Nat} {cs : List Value} (h : Box w b T cs) (j : Nat) (v : Value) (hv : cs[j]? = some v) : w.cell? ⟨b, 0 + j, none⟩ = some v := by
  rw [Nat.zero_add, cell_of_row w b j _ _ _ h.heap]; simpa using hv
theorem Box.ext {w w' : World} {b T : Nat} {cs : List Value} (h : Box w b T cs) (e : Ext w w') : Box w' b T cs := ⟨(e.block b h.lt).trans h.heap⟩
theorem Box.upd {M : Nat → Prop} {w w' : World} {b T : Nat} {cs : List Value} (h : Box w b T cs) (e : Upd M w w') (hb : ¬ M b) : Box w' b T cs := ⟨(e.2 b h.lt hb).trans h.heap⟩
theorem Box.at {M : Nat → Prop} {w : World} {b T : Nat} {cs : List Value} (h : Box w b T cs) (hb : ¬ M b) : At M w b 0 cs := ⟨h.lt, hb, fun j v hv => h.cell j v hv⟩

/-! ## The program's types, as a short table -/

inductive TD where
  | int (k : IntKind) | bool | str | sl (e : Nat) | ptr (e : Nat) | st (fs : List (Nat × Nat)) | fn | mp (k e : Nat)

structure TI where
  d : TD
  size : Nat
  bytes : Nat
  zero : Value

def FsOk (P : Program) (f : Array Field) : Nat → List (Nat × Nat) → Prop
  | _, [] => True
  | j, (o, e) :: r => (∃ x i, f[j]? = some x ∧ x.offset = o ∧ x.type = e ∧ P.info? e = some i ∧ Nat.beq i.size 0 = false) ∧ FsOk P f (j + 1) r

theorem FsOk.get {P : Program} {f : Array Field} : ∀ {l : List (Nat × Nat)} {k : Nat}, FsOk P f k l → ∀ {j o e : Nat}, l[j]? = some (o, e) →
    ∃ x i, f[k + j]? = some x ∧ x.offset = o ∧ x.type = e ∧ P.info? e = some i ∧ i.size ≠ 0
  | [], _, _, j, o, e, h => by simp at h
  | (o', e') :: r, k, hf, 0, o, e, h => by
    simp at h
    obtain ⟨rfl, rfl⟩ := h
    obtain ⟨x, i, h1, h2, h3, h4, h5⟩ := hf.1
    exact ⟨x, i, h1, h2, h3, h4, fun h0 => by rw [h0] at h5; simp at h5⟩
  | (o', e') :: r, k, hf, j + 1, o, e, h => by
    have := FsOk.get hf.2 (j := j) (by simpa using h)
    rwa [show k + (j + 1) = k + 1 + j by omega]

def TD.Ok (P : Program) (t : Nat) : TD → Prop
  | .int k => P.underlying t = some (.int k)
  | .bool => P.underlying t = some .bool
  | .str => P.underlying t = some .string
  | .sl e => P.underlying t = some (.slice e)
  | .ptr e => P.underlying t = some (.pointer e)
  | .st fs => ∃ f, P.underlying t = some (.struct f) ∧ f.size = fs.length ∧ FsOk P f 0 fs
  | .fn => ∃ a b c, P.underlying t = some (.func a b c)
  | .mp k e => P.underlying t = some (.map k e)

def TD.agg : TD → Bool
  | .st _ => true
  | _ => false

structure TIOk (P : Program) (t : Nat) (x : TI) : Prop where
  info : ∃ i, P.info? t = some i ∧ i.size = x.size ∧ i.bytes = x.bytes ∧ i.zero = some x.zero
  d : x.d.Ok P t

abbrev Tab := List (Nat × TI)
def Tab.get : Tab → Nat → Option TI
  | [], _ => none
  | (k, v) :: r, n => bif Nat.beq k n then some v else Tab.get r n

def TabOk (P : Program) (T : Tab) : Prop := ∀ t x, T.get t = some x → TIOk P t x
theorem tab_nil {P : Program} : TabOk P [] := fun t x h => by simp [Tab.get] at h
theorem tab_cons {P : Program} {T : Tab} {k : Nat} {v : TI} (h : TIOk P k v) (hr : TabOk P T) : TabOk P ((k, v) :: T) := fun t x hx => by
  simp only [Tab.get, cond_eq_ite] at hx
  split at hx
  · rename_i hb
    have := Nat.eq_of_beq_eq_true hb
    subst this
    simp at hx
    subst hx
    exact h
  · exact hr t x hx

theorem run_isAgg {P : Program} {T : Tab} (hT : TabOk P T) {t : Nat} {x : TI} (h : T.get t = some x) (w : World) : (isAgg t).run P w = .ok x.d.agg w := by
  have hd := (hT t x h).d
  unfold isAgg
  cases hx : x.d <;> rw [hx] at hd <;> simp only [TD.Ok] at hd
  case st fs => obtain ⟨f, hf, _⟩ := hd; simp [run_underlying hf, TD.agg]
  case fn => obtain ⟨a, b, c, hf⟩ := hd; simp [run_underlying hf, TD.agg]
  all_goals simp [run_underlying hd, TD.agg]

theorem run_sizeOf {P : Program} {T : Tab} (hT : TabOk P T) {t : Nat} {x : TI} (h : T.get t = some x) (w : World) : (Go.sizeOf t).run P w = .ok x.size w := by
  obtain ⟨i, h1, h2, _⟩ := (hT t x h).info
  simp [Go.sizeOf, typeInfo, h1, h2]

theorem run_zeroValue' {P : Program} {T : Tab} (hT : TabOk P T) {t : Nat} {x : TI} (h : T.get t = some x) (w : World) : (zeroValue t).run P w = .ok x.zero w := by
  obtain ⟨i, h1, _, _, h4⟩ := (hT t x h).info
  simp [zeroValue, typeInfo, h1, h4]

/-! ## Guards -/

def gd (ops : Array Oper) (G : Env) (o : Oper) : Option Bool :=
  match o.guard with
  | none => some true
  | some (j, want) => match (ops[j]?).bind (·.dst) with
    | some t => match Env.get G t with
      | some (.bool b) => some (b == want)
      | some (.tuple _) => some false
      | _ => none
    | none => none

theorem wanted_of_gd {ops : Array Oper} {G : Env} {o : Oper} {n : Nat} {a : Act} (hm : Models n a G) {b : Bool} (h : gd ops G o = some b) : Region.wanted o (yielded ops a.tmps) = b := by
  unfold gd at h
  unfold Region.wanted
  split at h
  · rename_i hg; simp at h; simp [hg, h]
  · rename_i j want hg
    split at h
    · rename_i t ht
      split at h
      · rename_i c hc
        simp at h
        simp [hg, yielded, ht, hm.val t _ hc, h]
      · rename_i hc
        simp at h
        simp [hg, yielded, ht, hm.val t _ hc, h]
      · cases h
    · cases h

section
variable {P : Program} {n : Nat} {ops : Array Oper} {Q : Exit → Act → World → Prop} {G : Env} {w : World} {K : Env → World → Prop}

/-- An operation that yields a value. -/
theorem o_val {o : Oper} {d : Nat} {v : Value} {w' : World} (hg : gd ops G o = some true) (hd : o.dst = some d) (hdn : Nat.blt d n = true)
    (hrun : ∀ a, Models n a G → (execOp a.eval o).run P w = .ok (.value v) w') (h : K ((d, v) :: G) w') : OW P n ops Q G w o K := by
  intro a ha K' hK
  rw [if_pos (wanted_of_gd ha hg)]
  simp only [Oper.wp, hrun a ha, Oper.upon, hd]
  exact hK _ _ h _ (ha.put hdn v)

/-- An operation that yields nothing. -/
theorem o_unit {o : Oper} {w' : World} (hg : gd ops G o = some true) (hd : o.dst = none)
    (hrun : ∀ a, Models n a G → (execOp a.eval o).run P w = .ok .skip w') (h : K G w') : OW P n ops Q G w o K := by
  intro a ha K' hK
  rw [if_pos (wanted_of_gd ha hg)]
  simp only [Oper.wp, hrun a ha, Oper.upon, hd]
  exact hK _ _ h _ (ha.put_none _)

/-- An operation that isn't wanted. -/
theorem o_skip {op : Op} {d ty : Nat} {pos : String} {af : Array Edge} {g : Option (Nat × Bool)} (hg : gd ops G ⟨some d, op, ty, pos, af, g⟩ = some false) (hdn : Nat.blt d n = true) (h : K ((d, undef) :: G) w) : OW P n ops Q G w ⟨some d, op, ty, pos, af, g⟩ K := by
  intro a ha K' hK
  rw [if_neg (by rw [wanted_of_gd ha hg]; simp)]
  exact hK _ _ h _ (ha.put hdn undef)
theorem o_skip0 {op : Op} {ty : Nat} {pos : String} {af : Array Edge} {g : Option (Nat × Bool)} (hg : gd ops G ⟨none, op, ty, pos, af, g⟩ = some false) (h : K G w) : OW P n ops Q G w ⟨none, op, ty, pos, af, g⟩ K := by
  intro a ha K' hK
  rw [if_neg (by rw [wanted_of_gd ha hg]; simp)]
  exact hK _ _ h _ (ha.put_none _)
end

/-! ## Values computed from values -/

def cmpI (op : BinOp) (x y : Int) : Option Value :=
  match op with
  | .eql => some (.bool (decide (x = y)))
  | .neq => some (.bool (!decide (x = y)))
  | .lss => some (.bool (decide (x < y)))
  | .leq => some (.bool (decide (x ≤ y)))
  | .gtr => some (.bool (decide (y < x)))
  | .geq => some (.bool (decide (y ≤ x)))
  | _ => none

/-- Names in order, byte by byte. -/
def sLt (a b : ByteArray) : Bool := Op.bytesLess a.data.toList b.data.toList

def cmpS (op : BinOp) (x y : ByteArray) : Option Value :=
  match op with
  | .eql => some (.bool (decide (x = y)))
  | .neq => some (.bool (!decide (x = y)))
  | .lss => some (.bool (sLt x y))
  | .leq => some (.bool (sLt x y || decide (x = y)))
  | .gtr => some (.bool (!(sLt x y || decide (x = y))))
  | .geq => some (.bool (!sLt x y))
  | _ => none

def binS (op : BinOp) : Value → Value → Option Value
  | .int .i64 x, .int .i64 y => cmpI op x y
  | .int .u8 x, .int .u8 y => cmpI op x y
  | .int .u64 x, .int .u64 y => cmpI op x y
  | .string x, .string y => cmpS op x y
  | _, _ => none

theorem intCmp_run {op : BinOp} {x y : Int} {v : Value} (h : cmpI op x y = some v) (P : Program) (w : World) : (Op.intCmp op x y).run P w = .ok v w := by
  cases op <;> simp [cmpI] at h <;> subst h <;> simp [Op.intCmp] <;> rfl

theorem bytes_beq (x y : ByteArray) : (x.toList == y.toList) = decide (x = y) := by
  rw [ByteArray.toList_eq, ByteArray.toList_eq, Bool.eq_iff_iff]
  simp only [beq_iff_eq, decide_eq_true_eq]
  constructor
  · intro h
    cases x; cases y
    simp only [ByteArray.mk.injEq]
    exact Array.toList_inj.1 h
  · intro h; rw [h]

theorem stringOp_run {op : BinOp} {x y : ByteArray} {v : Value} (h : cmpS op x y = some v) (P : Program) (w : World) : (Op.stringOp op x y).run P w = .ok v w := by
  have hb := bytes_beq x y
  have e1 : x.toList = x.data.toList := ByteArray.toList_eq x
  have e2 : y.toList = y.data.toList := ByteArray.toList_eq y
  cases op <;> simp only [cmpS] at h <;> (try cases h) <;> simp only [Op.stringOp, hb, sLt, Sem.run_pure] <;> simp only [e1, e2]

theorem binOp_run {op : BinOp} {x y : Value} {v : Value} (h : binS op x y = some v) (t : TypeId) (ox oy : Operand) (P : Program) (w : World) :
    (do eqGuard op t ox oy x y; binOp op t x y : Sem Value).run P w = .ok v w := by
  unfold binS at h
  split at h
  · have hr := intCmp_run h P w
    cases op <;> simp [cmpI] at h <;> simpa [eqGuard, binOp] using hr
  · have hr := intCmp_run h P w
    cases op <;> simp [cmpI] at h <;> simpa [eqGuard, binOp] using hr
  · have hr := intCmp_run h P w
    cases op <;> simp [cmpI] at h <;> simpa [eqGuard, binOp] using hr
  · have hr := stringOp_run h P w
    cases op <;> simp only [cmpS] at h <;> (try cases h) <;> simpa [eqGuard, binOp] using hr
  · cases h

def minS : Value → Value → Option Value
  | .int .i64 x, .int .i64 y => some (.int .i64 (if y < x then y else x))
  | _, _ => none

def pureS (T : Tab) (G : Env) : Op → Option Value
  | .move x => Env.ev G x
  | .assign x => Env.ev G x
  | .pick c a b => match Env.ev G c with
    | some (.bool true) => Env.ev G a
    | some (.bool false) => Env.ev G b
    | _ => none
  | .binOp op _ x y _ => match Env.ev G x with
    | some u => match Env.ev G y with
      | some v => binS op u v
      | none => none
    | none => none
  | .unOp .not _ x => match Env.ev G x with
    | some (.bool b) => some (.bool (!b))
    | _ => none
  | .extract x i => match Env.ev G x with
    | some (.tuple vs) => vs[i]?
    | _ => none
  | .fieldAddr t x i => match Env.ev G x with
    | some (.pointer (some ⟨b, off, none⟩)) => match T.get t with
      | some ⟨.st fs, _, _, _⟩ => match fs[i]? with
        | some (o, _) => some (.pointer (some ⟨b, off + o, none⟩))
        | none => none
      | _ => none
    | _ => none
  | .makeFunc fn first captured => match Env.evs G first.toList with
    | some fs => match Env.evs G captured.toList with
      | some cs => some (.func fn fs.toArray cs.toArray)
      | none => none
    | none => none
  | .nilCheck x => match Env.ev G x with
    | some (.pointer (some a)) => some (.pointer (some a))
    | _ => none
  | .call ⟨.builtin .len, args, tys⟩ => match args.toList, tys.toList with
    | [x], [t] => match Env.ev G x with
      | some (.slice _ len _) => match T.get t with
        | some ⟨.sl _, _, _, _⟩ => some (.int .i64 (len : Int))
        | _ => none
      | some (.string s) => match T.get t with
        | some ⟨.str, _, _, _⟩ => some (.int .i64 (s.size : Int))
        | _ => none
      | _ => none
    | _, _ => none
  | .call ⟨.builtin .min, args, _⟩ => match args.toList with
    | [x, y] => match Env.ev G x with
      | some u => match Env.ev G y with
        | some v => minS u v
        | none => none
      | none => none
    | _ => none
  | _ => none

theorem addr_add (b off k : Nat) : (⟨b, off, none⟩ : Addr).add k = ⟨b, off + k, none⟩ := by
  unfold Addr.add
  split
  · rename_i h; simp [h]
  · rfl

theorem array_of_toList {α : Type} {a : Array α} {l : List α} (h : a.toList = l) : a = l.toArray := by rw [← h]

theorem pureS_run {P : Program} {T : Tab} (hT : TabOk P T) {n : Nat} {a : Act} {G : Env} (hm : Models n a G) {o : Oper} {v : Value} (h : pureS T G o.op = some v) (w : World) :
    (execOp a.eval o).run P w = .ok (.value v) w := by
  obtain ⟨dst, op, type, pos, after, guard⟩ := o
  simp only at h
  unfold pureS at h
  split at h
  case h_1 x => simp [execOp, hm.ev h]
  case h_2 x => simp [execOp, hm.ev h]
  case h_3 c x y =>
    split at h
    · rename_i hc; simp [execOp, hm.ev hc, hm.ev h, asBool]
    · rename_i hc; simp [execOp, hm.ev hc, hm.ev h, asBool]
    · cases h
  case h_4 bop t x y t' =>
    split at h
    · rename_i u hu
      split at h
      · rename_i u' hu'
        have := binOp_run h t x y P w
        simp only [execOp, hm.ev hu, hm.ev hu']
        simp only [Sem.run_bind] at this ⊢
        rw [this]
        rfl
      · cases h
    · cases h
  case h_5 t x =>
    split at h
    · rename_i b hb; simp at h; subst h; simp [execOp, hm.ev hb, Op.unary]
    · cases h
  case h_6 x i =>
    split at h
    · rename_i vs hv; simp [execOp, hm.ev hv, Instr.extract, h]
    · cases h
  case h_7 t x i =>
    split at h
    · rename_i b off hx
      split at h
      · rename_i fs s b z ht
        split at h
        · rename_i o e he
          simp at h
          subst h
          obtain ⟨f, hf, _, hfs⟩ := (hT t _ ht).d
          obtain ⟨y, i', h1, h2, h3, h4, h5⟩ := hfs.get he
          simp only [Nat.zero_add] at h1
          simp [execOp, hm.ev hx, Instr.fieldAt, run_underlying hf, h1, Instr.sureAddr, fieldPlace, Go.sizeOf, typeInfo, h3, h4, h5, h2, addr_add]
        · cases h
      · cases h
    · cases h
  case h_8 fn first captured =>
    split at h
    · rename_i fs hfs
      split at h
      · rename_i cs hcs
        simp at h
        subst h
        have e1 : first.map a.eval = fs.toArray := array_of_toList (by simp [hm.evs hfs])
        have e2 : captured.map a.eval = cs.toArray := array_of_toList (by simp [hm.evs hcs])
        simp [execOp, Instr.makeFunc, e1, e2]
      · cases h
    · cases h
  case h_9 x =>
    split at h
    · rename_i b hb; simp at h; subst h; simp [execOp, hm.ev hb]
    · cases h
  case h_10 args tys =>
    split at h
    · rename_i x t hargs htys
      have ha : args = #[x] := array_of_toList hargs
      have ht : tys = #[t] := array_of_toList htys
      subst ha; subst ht
      split at h
      · rename_i ad len cap hx
        split at h
        · rename_i e s b z hty
          simp at h
          subst h
          have hd := (hT t _ hty).d
          simp only [TD.Ok] at hd
          simp [execOp, resolve, invoke, builtin, hm.ev hx, Builtin.len_, run_underlying hd, goInt]
        · cases h
      · rename_i s hx
        split at h
        · rename_i s' b z hty
          simp at h
          subst h
          have hd := (hT t _ hty).d
          simp only [TD.Ok] at hd
          simp [execOp, resolve, invoke, builtin, hm.ev hx, Builtin.len_, run_underlying hd, goInt]
        · cases h
      · cases h
    · cases h
  case h_11 args tys =>
    split at h
    · rename_i x y hargs
      have ha : args = #[x, y] := array_of_toList hargs
      subst ha
      split at h
      · rename_i u hu
        split at h
        · rename_i u' hu'
          unfold minS at h
          split at h
          · simp at h; subst h
            simp [execOp, resolve, invoke, builtin, hm.ev hu, hm.ev hu', Builtin.min_, Builtin.min2]
          · cases h
        · cases h
      · cases h
    · cases h
  case h_12 => cases h

section
variable {P : Program} {T : Tab} {n : Nat} {ops : Array Oper} {Q : Exit → Act → World → Prop} {G : Env} {w : World} {K : Env → World → Prop}
  {d ty : Nat} {pos : String} {af : Array Edge} {g : Option (Nat × Bool)}

/-- A value computed from values. -/
theorem o_p {op : Op} {v : Value} (hT : TabOk P T) (hv : pureS T G op = some v) (hg : gd ops G ⟨some d, op, ty, pos, af, g⟩ = some true) (hdn : Nat.blt d n = true)
    (h : K ((d, v) :: G) w) : OW P n ops Q G w ⟨some d, op, ty, pos, af, g⟩ K :=
  o_val hg rfl hdn (fun _ ha => pureS_run hT ha hv w) h

/-- One operation that computes a value from values, or that isn't wanted: its slot, and the value. -/
def stepP (T : Tab) (n : Nat) (ops : Array Oper) (G : Env) (o : Oper) : Option (Nat × Value) :=
  match o.dst with
  | none => none
  | some d => bif Nat.blt d n then
      match gd ops G o with
      | some true => match pureS T G o.op with
        | some v => some (d, v)
        | none => none
      | some false => some (d, undef)
      | none => none
    else none
/-- So many of them. -/
def runP (T : Tab) (n : Nat) (ops : Array Oper) : Nat → Env → List Oper → Option (Env × List Oper)
  | 0, G, l => some (G, l)
  | _ + 1, _, [] => none
  | k + 1, G, o :: r => match stepP T n ops G o with
    | some (d, v) => runP T n ops k ((d, v) :: G) r
    | none => none
theorem l_p (k : Nat) {G' : Env} {l l' : List Oper} (hT : TabOk P T) (hr : runP T n ops k G l = some (G', l')) (h : WL P n ops Q G' w l') : WL P n ops Q G w l := by
  induction k generalizing G l with
  | zero => simp [runP] at hr; obtain ⟨rfl, rfl⟩ := hr; exact h
  | succ k ih =>
    cases l with
    | nil => simp [runP] at hr
    | cons o r =>
      simp only [runP] at hr
      split at hr
      · rename_i d v hs
        obtain ⟨od, op, ty, pos, af, g⟩ := o
        unfold stepP at hs
        simp only at hs
        split at hs
        · cases hs
        · rename_i d' 
          cases hb : Nat.blt d' n with
          | false => rw [hb] at hs; cases hs
          | true =>
            rw [hb] at hs
            simp only [cond_true] at hs
            split at hs
            · rename_i hg
              split at hs
              · rename_i v' hv
                simp only [Option.some.injEq, Prod.mk.injEq] at hs
                obtain ⟨rfl, rfl⟩ := hs
                exact l_cons (o_p hT hv hg hb (ih hr))
              · cases hs
            · rename_i hg
              simp only [Option.some.injEq, Prod.mk.injEq] at hs
              obtain ⟨rfl, rfl⟩ := hs
              exact l_cons (o_skip hg hb (ih hr))
            · cases hs
      · cases hr

/-- Sums, differences, products. -/
def arI (op : BinOp) (x y : Int) : Option Int :=
  match op with
  | .add => some (x + y)
  | .sub => some (x - y)
  | .mul => some (x * y)
  | _ => none

theorem o_ar {bop : BinOp} {t t' : TypeId} {x y : Operand} {k : IntKind} {p q r z : Int} (hx : Env.ev G x = some (.int k p)) (hy : Env.ev G y = some (.int k q)) (hr : arI bop p q = some r) (hz : k.wrap r = z)
    (hg : gd ops G ⟨some d, .binOp bop t x y t', ty, pos, af, g⟩ = some true) (hdn : Nat.blt d n = true) (h : K ((d, .int k z) :: G) w) : OW P n ops Q G w ⟨some d, .binOp bop t x y t', ty, pos, af, g⟩ K := by
  refine o_val hg rfl hdn (fun a ha => ?_) h
  cases bop <;> simp [arI] at hr <;> subst hr <;> subst hz <;> simp [execOp, ha.ev hx, ha.ev hy, eqGuard, binOp, Op.intArith]

/-- A call of a Go function. -/
theorem o_call {f : FuncId} {args : Array Operand} {tys : Array TypeId} {vs : List Value} {R : Value → World → Prop} (hf : FnOk P f) (hv : Env.evs G args.toList = some vs)
    (hg : gd ops G ⟨some d, .call ⟨.value (.func f), args, tys⟩, ty, pos, af, g⟩ = some true) (hdn : Nat.blt d n = true)
    (hc : Calls P f vs.toArray w (Ret R)) (h : ∀ v w', R v w' → K ((d, v) :: G) w') : OW P n ops Q G w ⟨some d, .call ⟨.value (.func f), args, tys⟩, ty, pos, af, g⟩ K := by
  intro a ha K' hK
  rw [if_pos (wanted_of_gd ha hg)]
  have e : args.map a.eval = vs.toArray := array_of_toList (by simp [ha.evs hv])
  have hrun : (execOp a.eval ⟨some d, .call ⟨.value (.func f), args, tys⟩, ty, pos, af, g⟩).run P w = .ok (.enter f vs.toArray) w := by
    simp [execOp, resolve, e, Deferred.ofValue, Act.eval, invoke, run_callFunc_ok hf]
  simp only [Oper.wp, hrun, Oper.upon]
  refine hc.mono fun en w' hr => ?_
  cases en with
  | returned v => exact hK _ _ (h v w' hr) _ (ha.put hdn v)
  | panicked c => exact hr.elim
  | outgrown => exact hr.elim

/-- A call of a function value. -/
theorem o_dyn {f : FuncId} {x : Operand} {caps : List Value} {args : Array Operand} {tys : Array TypeId} {vs : List Value} {R : Value → World → Prop} (hx : Env.ev G x = some (.func (.func f) #[] caps.toArray)) (hf : FnOk P f) (hv : Env.evs G args.toList = some vs)
    (hg : gd ops G ⟨some d, .call ⟨.value x, args, tys⟩, ty, pos, af, g⟩ = some true) (hdn : Nat.blt d n = true)
    (hc : Calls P f (vs ++ caps).toArray w (Ret R)) (h : ∀ v w', R v w' → K ((d, v) :: G) w') : OW P n ops Q G w ⟨some d, .call ⟨.value x, args, tys⟩, ty, pos, af, g⟩ K := by
  intro a ha K' hK
  rw [if_pos (wanted_of_gd ha hg)]
  have e : args.map a.eval = vs.toArray := array_of_toList (by simp [ha.evs hv])
  have hrun : (execOp a.eval ⟨some d, .call ⟨.value x, args, tys⟩, ty, pos, af, g⟩).run P w = .ok (.enter f (vs ++ caps).toArray) w := by
    simp [execOp, resolve, e, ha.ev hx, Deferred.ofValue, invoke, run_callFunc_ok hf]
  simp only [Oper.wp, hrun, Oper.upon]
  refine hc.mono fun en w' hr => ?_
  cases en with
  | returned v => exact hK _ _ (h v w' hr) _ (ha.put hdn v)
  | panicked c => exact hr.elim
  | outgrown => exact hr.elim

/-- A load of one cell. -/
theorem o_ld {t : TypeId} {x : Operand} {v : Value} {b o : Nat} {ti : TI} (hT : TabOk P T) (hc : w.cell? ⟨b, o, none⟩ = some v) (hx : Env.ev G x = some (.pointer (some ⟨b, o, none⟩))) (ht : T.get t = some ti) (hta : ti.d.agg = false)
    (hg : gd ops G ⟨some d, .load t x, ty, pos, af, g⟩ = some true) (hdn : Nat.blt d n = true) (h : K ((d, v) :: G) w) : OW P n ops Q G w ⟨some d, .load t x, ty, pos, af, g⟩ K := by
  refine o_val hg rfl hdn (fun a ha => ?_) h
  simp [execOp, ha.ev hx, Instr.loadAt, Instr.sureAddr, loadVar, run_isAgg hT ht, hta, hc]

/-- A load of a struct. -/
theorem o_lds {t : TypeId} {x : Operand} {cs : List Value} {b o : Nat} {ti : TI} (hT : TabOk P T) (hc : ∀ j v, cs[j]? = some v → w.cell? ⟨b, o + j, none⟩ = some v) (hx : Env.ev G x = some (.pointer (some ⟨b, o, none⟩))) (ht : T.get t = some ti) (hta : ti.d.agg = true)
    (hl : cs.length = ti.size)
    (hg : gd ops G ⟨some d, .load t x, ty, pos, af, g⟩ = some true) (hdn : Nat.blt d n = true) (h : K ((d, .agg cs.toArray) :: G) w) : OW P n ops Q G w ⟨some d, .load t x, ty, pos, af, g⟩ K := by
  refine o_val hg rfl hdn (fun a ha => ?_) h
  have hlc : (loadCells ⟨b, o, none⟩ ti.size).run P w = .ok cs.toArray w := by
    rw [← hl]
    exact run_loadCells_list (P := P) w ⟨b, o, none⟩ cs (fun j v hv => by rw [addr_add]; exact hc j v hv)
  simp [execOp, ha.ev hx, Instr.loadAt, Instr.sureAddr, loadVar, run_isAgg hT ht, hta, run_sizeOf hT ht, hlc]

/-- The address of an element. -/
theorem o_ix {t : TypeId} {x i : Operand} {b off len cap e : Nat} {k : IntKind} {z : Int} {j : Nat} {ti te : TI} (hT : TabOk P T) (hx : Env.ev G x = some (.slice (some ⟨b, off, none⟩) len cap)) (hi : Env.ev G i = some (.int k z))
    (ht : T.get t = some ti) (htd : ti.d = .sl e) (hte : T.get e = some te) (hj : z = (j : Int)) (hlt : j < len)
    (hg : gd ops G ⟨some d, .indexAddr t x i, ty, pos, af, g⟩ = some true) (hdn : Nat.blt d n = true) (h : K ((d, .pointer (some ⟨b, off + j * te.size, none⟩)) :: G) w) : OW P n ops Q G w ⟨some d, .indexAddr t x i, ty, pos, af, g⟩ K := by
  refine o_val hg rfl hdn (fun a ha => ?_) h
  have hd := (hT t _ ht).d
  rw [htd] at hd
  simp only [TD.Ok] at hd
  subst hj
  have h1 : (0 : Int) ≤ (j : Int) ∧ (j : Int) < (len : Int) := by omega
  simp [execOp, ha.ev hx, ha.ev hi, Instr.indexAt, asIntOf, run_underlying hd, h1, run_sizeOf hT hte, addr_add]
  intro hge
  omega

theorem run_si {t : TypeId} {x i : Operand} {s : ByteArray} {k : IntKind} {z : Int} {j : Nat} {c : UInt8} {ti : TI} (hT : TabOk P T) {a : Act} (ha : Models n a G) (hx : Env.ev G x = some (.string s)) (hi : Env.ev G i = some (.int k z))
    (ht : T.get t = some ti) (htd : ti.d = .str) (hj : z = (j : Int)) (hc : s.data[j]? = some c) (w : World) : (execOp a.eval ⟨some d, .index t x i, ty, pos, af, g⟩).run P w = .ok (.value (.int .u8 c.toNat)) w := by
  have hd := (hT t _ ht).d
  rw [htd] at hd
  simp only [TD.Ok] at hd
  subst hj
  have hc' : s[j]? = some c := by
    rw [Array.getElem?_eq_some_iff] at hc
    obtain ⟨hlt, rfl⟩ := hc
    exact getElem?_pos s j hlt
  simp [execOp, ha.ev hx, ha.ev hi, Instr.index, asIntOf, run_underlying hd, hc']
/-- A byte of a string. -/
theorem o_si {t : TypeId} {x i : Operand} {s : ByteArray} {k : IntKind} {z : Int} {j : Nat} {c : UInt8} {ti : TI} (hT : TabOk P T) (hx : Env.ev G x = some (.string s)) (hi : Env.ev G i = some (.int k z))
    (ht : T.get t = some ti) (htd : ti.d = .str) (hj : z = (j : Int)) (hc : s.data[j]? = some c)
    (hg : gd ops G ⟨some d, .index t x i, ty, pos, af, g⟩ = some true) (hdn : Nat.blt d n = true) (h : K ((d, .int .u8 c.toNat) :: G) w) : OW P n ops Q G w ⟨some d, .index t x i, ty, pos, af, g⟩ K := by
  exact o_val hg rfl hdn (fun a ha => run_si hT ha hx hi ht htd hj hc w) h

/-- A new variable, with a value. -/
theorem o_box {e : TypeId} {x : Operand} {v : Value} (hv : Env.ev G x = some v)
    (hg : gd ops G ⟨some d, .box e x, ty, pos, af, g⟩ = some true) (hdn : Nat.blt d n = true)
    (h : ∀ b w', b = w.heap.size → Ext w w' → Box w' b e v.cells.toList → K ((d, .pointer (some ⟨b, 0, none⟩)) :: G) w') : OW P n ops Q G w ⟨some d, .box e x, ty, pos, af, g⟩ K := by
  refine o_val (w' := w.alloc (.cells v.cells e)) hg rfl hdn (fun a ha => ?_) (h w.heap.size _ rfl (ext_alloc _ _) ⟨?_⟩)
  · simp [execOp, ha.ev hv, Instr.box, newVar, newRow]
  · simpa using heap_alloc_new w (.cells v.cells e)

/-- A new variable, zero. -/
theorem o_new {e : TypeId} {ti : TI} (hT : TabOk P T) (he : T.get e = some ti)
    (hg : gd ops G ⟨some d, .alloc e, ty, pos, af, g⟩ = some true) (hdn : Nat.blt d n = true)
    (h : ∀ b w', b = w.heap.size → Ext w w' → Box w' b e ti.zero.cells.toList → K ((d, .pointer (some ⟨b, 0, none⟩)) :: G) w') : OW P n ops Q G w ⟨some d, .alloc e, ty, pos, af, g⟩ K := by
  refine o_val (w' := w.alloc (.cells ti.zero.cells e)) hg rfl hdn (fun a _ => ?_) (h w.heap.size _ rfl (ext_alloc _ _) ⟨?_⟩)
  · simp [execOp, Instr.alloc, run_zeroValue' hT he, newVar, newRow]
  · simpa using heap_alloc_new w (.cells ti.zero.cells e)

end
end Rw
