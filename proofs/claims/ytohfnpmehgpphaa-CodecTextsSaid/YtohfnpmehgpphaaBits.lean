/- Rules for walking a Go function's code: bits of numbers, a text appended to bytes. No program in sight. -/
import Derived.Test.YtohfnpmehgpphaaMem
import Derived.Test.YtohfnpmehgpphaaMore
import Derived.Lib.BufferRead
import Derived.WalkSpells
namespace Rw
open Go Go.RowKit

/-- A whole number as 64 bits without a sign. -/
def u64 (z : Int) : Nat := (z % 18446744073709551616).toNat
theorem u64_lt (z : Int) : u64 z < 18446744073709551616 := by unfold u64; omega
theorem u64_nat {n : Nat} (h : n < 18446744073709551616) : u64 (n : Int) = n := by unfold u64; omega
theorem wrap_u64 (z : Int) : IntKind.wrap .u64 z = ((u64 z : Nat) : Int) := by
  unfold u64
  simp [IntKind.wrap, IntKind.signed, IntKind.bits]
  omega
theorem wrap_u8 (n : Nat) : IntKind.wrap .u8 (n : Int) = ((n % 256 : Nat) : Int) := by
  simp [IntKind.wrap, IntKind.signed, IntKind.bits]
theorem or_128 {m : Nat} (h : m < 256) : IntKind.wrap .u8 ((BitVec.ofInt 8 (m : Int) ||| BitVec.ofInt 8 128).toNat : Int) = ((UInt8.ofNat (128 + m % 128)).toNat : Int) := by
  have key : ∀ m : Fin 256, (BitVec.ofInt 8 ((m.1 : Nat) : Int) ||| BitVec.ofInt 8 128).toNat = 128 + m.1 % 128 := by decide +kernel
  have := key ⟨m, h⟩
  rw [show (BitVec.ofInt 8 (m : Int) ||| BitVec.ofInt 8 128).toNat = 128 + m % 128 from this, wrap_u8, UInt8.toNat_ofNat']
theorem and_127 (c : UInt8) : IntKind.wrap .u8 ((BitVec.ofInt 8 (c.toNat : Int) &&& BitVec.ofInt 8 127).toNat : Int) = ((c.toNat % 128 : Nat) : Int) := by
  have key : ∀ m : Fin 256, (BitVec.ofInt 8 ((m.1 : Nat) : Int) &&& BitVec.ofInt 8 127).toNat = m.1 % 128 := by decide +kernel
  have hc := c.toNat_lt
  have := key ⟨c.toNat, hc⟩
  rw [show (BitVec.ofInt 8 (c.toNat : Int) &&& BitVec.ofInt 8 127).toNat = c.toNat % 128 from this, wrap_u8, Nat.mod_eq_of_lt (show c.toNat % 128 < 256 by omega)]
theorem or_add {n x i : Nat} (hn : n < 2 ^ i) (h : n + x * 2 ^ i < 18446744073709551616) : IntKind.wrap .u64 ((BitVec.ofInt 64 (n : Int) ||| BitVec.ofInt 64 ((x * 2 ^ i : Nat) : Int)).toNat : Int) = ((n + x * 2 ^ i : Nat) : Int) := by
  have e1 : (BitVec.ofInt 64 (n : Int)).toNat = n := by rw [BitVec.toNat_ofInt]; omega
  have e2 : (BitVec.ofInt 64 ((x * 2 ^ i : Nat) : Int)).toNat = x * 2 ^ i := by rw [BitVec.toNat_ofInt]; omega
  rw [BitVec.toNat_or, e1, e2, Nat.or_comm, Nat.mul_comm x, ← Nat.two_pow_add_eq_or_of_lt hn, wrap_u64, u64_nat (by rw [Nat.mul_comm] at h; omega), Nat.add_comm]

section
variable {P : Program} {T : Tab} {n : Nat} {ops : Array Oper} {Q : Exit → Act → World → Prop} {G : Env} {w : World} {K : Env → World → Prop}
  {d ty : Nat} {pos : String} {af : Array Edge} {g : Option (Nat × Bool)}
theorem o_or {t t' : TypeId} {x y : Operand} {k : IntKind} {a b r : Int} (hx : Env.ev G x = some (.int k a)) (hy : Env.ev G y = some (.int k b)) (hr : k.wrap ((BitVec.ofInt k.bits a ||| BitVec.ofInt k.bits b).toNat) = r)
    (hg : gd ops G ⟨some d, .binOp .or t x y t', ty, pos, af, g⟩ = some true) (hdn : Nat.blt d n = true) (h : K ((d, .int k r) :: G) w) : OW P n ops Q G w ⟨some d, .binOp .or t x y t', ty, pos, af, g⟩ K := by
  refine o_val hg rfl hdn (fun ac ha => ?_) h
  simp [execOp, ha.ev hx, ha.ev hy, eqGuard, binOp, Op.intBits, ← hr]
theorem o_and {t t' : TypeId} {x y : Operand} {k : IntKind} {a b r : Int} (hx : Env.ev G x = some (.int k a)) (hy : Env.ev G y = some (.int k b)) (hr : k.wrap ((BitVec.ofInt k.bits a &&& BitVec.ofInt k.bits b).toNat) = r)
    (hg : gd ops G ⟨some d, .binOp .and t x y t', ty, pos, af, g⟩ = some true) (hdn : Nat.blt d n = true) (h : K ((d, .int k r) :: G) w) : OW P n ops Q G w ⟨some d, .binOp .and t x y t', ty, pos, af, g⟩ K := by
  refine o_val hg rfl hdn (fun ac ha => ?_) h
  simp [execOp, ha.ev hx, ha.ev hy, eqGuard, binOp, Op.intBits, ← hr]
theorem o_shl {t t' : TypeId} {x y : Operand} {k k2 : IntKind} {a r : Int} {s : Nat} (hx : Env.ev G x = some (.int k a)) (hy : Env.ev G y = some (.int k2 (s : Int))) (hs : s ≤ k.bits) (hr : k.wrap (a * 2 ^ s) = r)
    (hg : gd ops G ⟨some d, .binOp .shl t x y t', ty, pos, af, g⟩ = some true) (hdn : Nat.blt d n = true) (h : K ((d, .int k r) :: G) w) : OW P n ops Q G w ⟨some d, .binOp .shl t x y t', ty, pos, af, g⟩ K := by
  refine o_val hg rfl hdn (fun ac ha => ?_) h
  have h0 : ¬ ((s : Int) < 0) := by omega
  simp [execOp, ha.ev hx, ha.ev hy, eqGuard, binOp, Op.shift, h0, Nat.min_eq_left hs, ← hr]
theorem o_shr7 {t t' : TypeId} {x y : Operand} {k2 : IntKind} {m : Nat} (hx : Env.ev G x = some (.int .u64 (m : Int))) (hy : Env.ev G y = some (.int k2 7))
    (hg : gd ops G ⟨some d, .binOp .shr t x y t', ty, pos, af, g⟩ = some true) (hdn : Nat.blt d n = true) (h : K ((d, .int .u64 ((m / 128 : Nat) : Int)) :: G) w) : OW P n ops Q G w ⟨some d, .binOp .shr t x y t', ty, pos, af, g⟩ K := by
  refine o_val hg rfl hdn (fun ac ha => ?_) h
  have e : (m : Int).fdiv 128 = ((m / 128 : Nat) : Int) := by rw [Int.fdiv_eq_ediv_of_nonneg _ (by omega)]; omega
  simp [execOp, ha.ev hx, ha.ev hy, eqGuard, binOp, Op.shift, IntKind.bits, e]

theorem o_rem128 {t t' : TypeId} {x y : Operand} {k : IntKind} {m : Nat} (hx : Env.ev G x = some (.int k (m : Int))) (hy : Env.ev G y = some (.int k 128))
    (hg : gd ops G ⟨some d, .binOp .rem t x y t', ty, pos, af, g⟩ = some true) (hdn : Nat.blt d n = true) (h : K ((d, .int k ((m % 128 : Nat) : Int)) :: G) w) : OW P n ops Q G w ⟨some d, .binOp .rem t x y t', ty, pos, af, g⟩ K := by
  refine o_val hg rfl hdn (fun a ha => ?_) h
  have h2 : (m : Int).tmod 128 = ((m % 128 : Nat) : Int) := by rw [Int.tmod_eq_emod_of_nonneg (by omega)]; omega
  simp [execOp, ha.ev hx, ha.ev hy, eqGuard, binOp, Op.intDiv, h2]
theorem o_quo128 {t t' : TypeId} {x y : Operand} {m : Nat} (hx : Env.ev G x = some (.int .u64 (m : Int))) (hy : Env.ev G y = some (.int .u64 128)) (hm : Nat.blt m 18446744073709551616 = true)
    (hg : gd ops G ⟨some d, .binOp .quo t x y t', ty, pos, af, g⟩ = some true) (hdn : Nat.blt d n = true) (h : K ((d, .int .u64 ((m / 128 : Nat) : Int)) :: G) w) : OW P n ops Q G w ⟨some d, .binOp .quo t x y t', ty, pos, af, g⟩ K := by
  refine o_val hg rfl hdn (fun a ha => ?_) h
  have hm' : m < 18446744073709551616 := by simpa using hm
  have h2 : (m : Int).tdiv 128 = ((m / 128 : Nat) : Int) := by rw [Int.tdiv_eq_ediv_of_nonneg (by omega)]; omega
  have h3 : IntKind.wrap .u64 ((m : Int) / 128) = (m : Int) / 128 := by rw [show (m : Int) / 128 = ((m / 128 : Nat) : Int) by omega, wrap_u64, u64_nat (by omega)]
  simp [execOp, ha.ev hx, ha.ev hy, eqGuard, binOp, Op.intDiv, h2, h3]
theorem o_sniB {t t' : TypeId} {x y : Operand} {a : Option Addr} {len c len' c' : Nat} {ti : TI} {e : Nat} (hT : TabOk P T) (hx : Env.ev G x = some (.slice a len c)) (hy : Env.ev G y = some (.slice none len' c')) (ht : T.get t = some ti) (htd : ti.d = .sl e)
    (hg : gd ops G ⟨some d, .binOp .eql t x y t', ty, pos, af, g⟩ = some true) (hdn : Nat.blt d n = true) (h : K ((d, .bool a.isNone) :: G) w) : OW P n ops Q G w ⟨some d, .binOp .eql t x y t', ty, pos, af, g⟩ K := by
  have hd := (hT t _ ht).d
  rw [htd] at hd
  simp only [TD.Ok] at hd
  exact o_val hg rfl hdn (fun ac ha => by simp [execOp, ha.ev hx, ha.ev hy, eqGuard, Lib.run_eql_slice_nil w t e a len c len' c' hd]) h
theorem x_ret3 {fn : Func} {R : Value → World → Prop} {t u s : Nat} {v x y : Value} (hr : fn.results = #[.tmp t, .tmp u, .tmp s]) (hv : Env.get G t = some v) (hx : Env.get G u = some x) (hy : Env.get G s = some y) (h : R (.tuple #[v, x, y]) w) : WX n (bodyPost P fn (Ret R)) G w .ret :=
  fun a ha => ⟨ha.defers, _, by simp [results, hr, Array.getD_eq_getD_getElem?, ha.val t v hv, ha.val u x hx, ha.val s y hy], h⟩
theorem x_ret4 {fn : Func} {R : Value → World → Prop} {t u s q : Nat} {v x y z : Value} (hr : fn.results = #[.tmp t, .tmp u, .tmp s, .tmp q]) (hv : Env.get G t = some v) (hx : Env.get G u = some x) (hy : Env.get G s = some y) (hz : Env.get G q = some z) (h : R (.tuple #[v, x, y, z]) w) : WX n (bodyPost P fn (Ret R)) G w .ret :=
  fun a ha => ⟨ha.defers, _, by simp [results, hr, Array.getD_eq_getD_getElem?, ha.val t v hv, ha.val u x hx, ha.val s y hy, ha.val q z hz], h⟩
/-- Bytes as a text. -/
theorem o_b2s {src dst e : TypeId} {x : Operand} {M : Nat → Prop} {v : Value} {l : List UInt8} {ti te ts : TI} (hT : TabOk P T) (hs : Sl M w v l) (hx : Env.ev G x = some v) (ht : T.get src = some ti) (htd : ti.d = .sl e) (hte : T.get e = some te) (hted : te.d = .int .u8) (hd : T.get dst = some ts) (hdd : ts.d = .str)
    (hg : gd ops G ⟨some d, .convert src dst x, ty, pos, af, g⟩ = some true) (hdn : Nat.blt d n = true) (h : K ((d, .string ⟨l.toArray⟩) :: G) w) : OW P n ops Q G w ⟨some d, .convert src dst x, ty, pos, af, g⟩ K := by
  have h1 := (hT src ti ht).d
  rw [htd] at h1
  have h2 := (hT e te hte).d
  rw [hted] at h2
  have h3 := (hT dst ts hd).d
  rw [hdd] at h3
  simp only [TD.Ok] at h1 h2 h3
  obtain ⟨a, c, rfl, _, _, hel⟩ := hs
  have hrun : (convert src dst (.slice a l.length c)).run P w = .ok (.string ⟨l.toArray⟩) w := by
    cases a with
    | none =>
      rcases hel with rfl | ⟨b, off, ha, _⟩
      · exact Go.Lib.run_convert_nil_bytes w src dst e c h1 h2 h3
      · cases ha
    | some a =>
      refine run_convert_bytes_back w src dst e a c l h1 h2 h3 fun j hj => ?_
      rcases hel with rfl | ⟨b, off, ha, hel⟩
      · simp at hj
      · cases ha
        obtain ⟨u, hu, hat⟩ := hel j l[j] (List.getElem?_eq_getElem hj)
        have hu' : u = .int .u8 l[j].toNat := hu
        subst hu'
        have := hat.cell 0 (.int .u8 l[j].toNat) rfl
        rw [addr_add]
        simpa [Rep.sz] using this
  exact o_val hg rfl hdn (fun ac ha => by simp [execOp, ha.ev hx, hrun]) h
theorem sl_isNoneB {α : Type} [Rep α] {M : Nat → Prop} {w : World} {a : Option Addr} {len c : Nat} {l : List α} (h : Sl M w (.slice a len c) l) (hn : a.isNone = true) : l = [] := by
  obtain ⟨a', c', e, _, _, h3⟩ := h
  cases e
  rcases h3 with h3 | ⟨b, off, rfl, _⟩
  · exact h3
  · cases hn
/-- A text's bytes read as bytes. -/
theorem rs_bytes (M : Nat → Prop) (w : World) : ∀ l : List UInt8, Rs M w (l.map fun b => Value.int .u8 b.toNat) l
  | [] => trivial
  | _ :: l => ⟨rfl, rs_bytes M w l⟩
theorem flat_bytes : ∀ l : List UInt8, flat (l.map fun b => Value.int .u8 b.toNat) = l.map fun b => Value.int .u8 b.toNat
  | [] => rfl
  | c :: l => by
    have := flat_bytes l
    unfold flat at this ⊢
    rw [List.map_cons, List.flatMap_cons, this]; rfl
/-- append(v, s...): a text's bytes onto a slice of the call's own. -/
theorem o_appS {t tx e B : Nat} {x y : Operand} {ti te ts : TI} {M : Nat → Prop} {v : Value} {l : List UInt8} {s : ByteArray} (hT : TabOk P T) (hown : OwnSl e B M w v l) (hl : Low M w) (hB : B ≤ w.heap.size)
    (hx : Env.ev G x = some v) (hy : Env.ev G y = some (.string s)) (ht : T.get t = some ti) (htd : ti.d = .sl e) (hte : T.get e = some te) (hrs : te.size = 1) (hz : te.zero.cells.size = te.size) (hs : T.get tx = some ts) (hsd : ts.d = .str)
    (h63 : l.length + s.data.toList.length < 140737488355328) (hbytes : (l.length + s.data.toList.length) * te.bytes ≤ 140737488355328)
    (hg : gd ops G ⟨some d, .call ⟨.builtin .append, #[x, y], #[t, tx]⟩, ty, pos, af, g⟩ = some true) (hdn : Nat.blt d n = true)
    (h : ∀ v' w' M', OwnSl e B M' w' v' (l ++ s.data.toList) → Stp B M M' w w' → (∀ b, b < w.heap.size → some b ≠ v.ownBlock → w'.heap[b]? = w.heap[b]?) → (∀ b, v'.ownBlock = some b → v.ownBlock = some b ∨ w.heap.size ≤ b) → K ((d, v') :: G) w') :
    OW P n ops Q G w ⟨some d, .call ⟨.builtin .append, #[x, y], #[t, tx]⟩, ty, pos, af, g⟩ K := by
  have hd := (hT tx ts hs).d
  rw [hsd] at hd
  simp only [TD.Ok] at hd
  have hsrc : Src P te.size tx (.string s) s.data.toList.length (flat (s.data.toList.map fun b => Value.int .u8 b.toNat)) w := by
    rw [hrs, flat_bytes]
    exact Src.ofString w hd s
  obtain ⟨v', w', M', hrun, h1, h2, h3, h4⟩ := run_app (ty := ty) hT ht htd hte hrs hz hown hsrc (rs_bytes M w _) hl hB h63 hbytes
  refine o_val (w' := w') hg rfl hdn (fun a ha => ?_) (h v' w' M' h1 h2 h3 h4)
  simp [execOp, resolve, invoke, builtin, ha.ev hx, ha.ev hy, hrun]
end
end Rw
