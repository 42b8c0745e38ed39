/- Plain laws on bytes: what numbers, texts, types, expressions are as bytes. No program in sight. -/
import Derived.Test.YtohfnpmehgpphaaPlainTa
import Derived.Test.YtohfnpmehgpphaaBits
namespace Rw

/-! ## Numbers -/

def numG : Nat → Nat → List UInt8
  | 0, n => [UInt8.ofNat n]
  | f + 1, n => if n < 128 then [UInt8.ofNat n] else UInt8.ofNat (128 + n % 128) :: numG f (n / 128)
/-- A number's bytes. -/
def numY (n : Nat) : List UInt8 := numG 9 n
theorem numG_more : ∀ (f n : Nat), n < 128 ^ (f + 1) → numG (f + 1) n = numG f n
  | 0, n, h => by
    have : n < 128 := by simpa using h
    simp [numG, this]
  | f + 1, n, h => by
    show (if n < 128 then [UInt8.ofNat n] else UInt8.ofNat (128 + n % 128) :: numG (f + 1) (n / 128)) = (if n < 128 then [UInt8.ofNat n] else UInt8.ofNat (128 + n % 128) :: numG f (n / 128))
    rw [numG_more f (n / 128) (by rw [Nat.pow_succ] at h; omega)]
theorem numY_small {n : Nat} (h : n < 128) : numY n = [UInt8.ofNat n] := by rw [numY, numG, if_pos h]
theorem numY_step {n : Nat} (h : ¬ n < 128) (hn : n < 18446744073709551616) : numY n = UInt8.ofNat (128 + n % 128) :: numY (n / 128) := by
  rw [numY, numG, if_neg h, numY, numG_more 8 _ (by omega)]
theorem numG_len : ∀ f n : Nat, (numG f n).length ≤ f + 1
  | 0, _ => by simp [numG]
  | f + 1, n => by
    rw [numG]
    split
    · simp
    · have := numG_len f (n / 128); simp; omega
theorem numY_len (n : Nat) : (numY n).length ≤ 10 := numG_len 9 n

/-! ## Texts, types, expressions -/

def textB (s : ByteArray) : List UInt8 := numY s.size ++ s.data.toList
theorem textB_len (s : ByteArray) : (textB s).length ≤ 10 + s.size := by
  have := numY_len s.size
  simp [textB]; omega
def headY (op : Int) (name : ByteArray) (n : Int) : List UInt8 := UInt8.ofNat op.toNat :: (if op = 7 ∨ op = 10 then numY (u64 n) else if op = 11 then textB name else [])
def typeB : Ty → List UInt8
  | .mk op name n kids => headY op name n ++ kids.flatMap typeB
theorem typeB_eq (t : Ty) : typeB t = headY t.op t.name t.n ++ t.kids.flatMap typeB := by cases t; rw [typeB]; rfl
theorem headY_num {b : List UInt8} {op n : Int} {nm : ByteArray} (h : op = 7 ∨ op = 10) : b ++ headY op nm n = (b ++ [UInt8.ofNat op.toNat]) ++ numY (u64 n) := by rw [headY, if_pos h, List.append_assoc]; rfl
theorem headY_text {b : List UInt8} {op n : Int} {nm : ByteArray} (h : op = 11) : b ++ headY op nm n = (b ++ [UInt8.ofNat op.toNat]) ++ textB nm := by rw [headY, if_neg (by omega), if_pos h, List.append_assoc]; rfl
theorem headY_none {b : List UInt8} {op n : Int} {nm : ByteArray} (h : op ≠ 7 ∧ op ≠ 10 ∧ op ≠ 11) : b ++ headY op nm n = b ++ [UInt8.ofNat op.toNat] := by rw [headY, if_neg (by omega), if_neg (by omega)]
theorem op_byte {op : Int} (h : 0 ≤ op ∧ op ≤ 255) : Go.Value.int .u8 op = Go.Value.int .u8 ((UInt8.ofNat op.toNat).toNat : Int) := by
  congr 1
  rw [UInt8.toNat_ofNat']
  omega
/-- Of an op: a name, an argument's name, a number, an annotation (1 perhaps, 2 always). -/
def prt (op : Int) : Bool × Bool × Bool × Int :=
  if op = 32 ∨ op = 38 ∨ op = 40 ∨ op = 42 ∨ op = 43 ∨ op = 44 ∨ op = 45 ∨ op = 46 ∨ op = 47 then (true, false, false, 0) else if op = 33 ∨ op = 34 then (false, false, true, 0) else if op = 35 then (false, true, false, 1)
  else if op = 36 then (true, true, false, 1) else if op = 49 then (true, true, false, 0) else if op = 50 then (false, true, false, 0) else if op = 51 then (false, false, false, 2) else (false, false, false, 0)
def cnt (op : Int) : Int := if op = 32 ∨ op = 33 ∨ op = 34 ∨ op = 41 then 0 else if op = 37 ∨ op = 38 ∨ op = 40 ∨ op = 42 ∨ op = 45 then 2 else if op = 39 then 3 else if op = 48 then -1 else 1
def o1 (op : Int) (name : ByteArray) : List UInt8 := UInt8.ofNat op.toNat :: (bif (prt op).1 then textB name else [])
def o2 (op : Int) (arg : ByteArray) : List UInt8 := bif (prt op).2.1 then textB arg else []
def o3 (op n : Int) : List UInt8 := bif (prt op).2.2.1 then numY (u64 n) else []
def o4 (op : Int) (has : Bool) : List UInt8 := bif decide ((prt op).2.2.2 = 1) then [bif has then 1 else 0] else []
def o5 (has : Bool) (ann : Ty) : List UInt8 := bif has then typeB ann else []
def o6 (op : Int) (n : Nat) : List UInt8 := bif decide (cnt op < 0) then numY n else []
theorem o1_yes {b : List UInt8} {op : Int} {nm : ByteArray} (h : (prt op).1 = true) : b ++ o1 op nm = (b ++ [UInt8.ofNat op.toNat]) ++ textB nm := by rw [o1, h, List.append_assoc]; rfl
theorem o1_no {b : List UInt8} {op : Int} {nm : ByteArray} (h : (prt op).1 = false) : b ++ o1 op nm = b ++ [UInt8.ofNat op.toNat] := by rw [o1, h]; rfl
theorem textB_size (s : ByteArray) : (textB s).length = (numY s.size).length + s.size := by simp [textB]
theorem set_last (l : List UInt8) (c d : UInt8) : (l ++ [c]).set l.length d = l ++ [d] := by simp
theorem get_last (l : List UInt8) (c : UInt8) : (l ++ [c])[l.length]? = some c := by simp
def headE (op : Int) (name arg : ByteArray) (n : Int) (has : Bool) (ann : Ty) (k : Nat) : List UInt8 := o1 op name ++ (o2 op arg ++ (o3 op n ++ (o4 op has ++ (o5 has ann ++ o6 op k))))
def termB : Tm → List UInt8
  | .mk op name arg n has ann kids => headE op name arg n has ann kids.length ++ kids.flatMap termB
theorem termB_eq (t : Tm) : termB t = headE t.op t.name t.arg t.n t.has t.ann t.kids.length ++ t.kids.flatMap termB := by cases t; rw [termB]; rfl
/-! ## Read again -/

def eyeN : Nat → Nat → Nat → List UInt8 → Bool → Nat × List UInt8 × Bool
  | 0, _, _, _, _ => (0, [], true)
  | _ + 1, _, _, [], _ => (0, [], true)
  | f + 1, i, n, c :: r, bad => if (c = 0 ∧ 0 < i) ∨ bad = true then (0, [], true) else if c.toNat < 128 then (n + c.toNat % 128 * 2 ^ (7 * i), r, bad) else eyeN f (i + 1) (n + c.toNat % 128 * 2 ^ (7 * i)) r bad
/-- A number off bytes; what is left; whether something is wrong. -/
def numE (l : List UInt8) (bad : Bool) : Nat × List UInt8 × Bool := eyeN 9 0 0 l bad
def textE (l : List UInt8) (bad : Bool) : ByteArray × List UInt8 × Bool :=
  if (numE l bad).2.1.length < (numE l bad).1 then (⟨#[]⟩, [], true) else (⟨((numE l bad).2.1.take (numE l bad).1).toArray⟩, (numE l bad).2.1.drop (numE l bad).1, (numE l bad).2.2)
theorem eyeN_bad {f i n : Nat} {l : List UInt8} {bad : Bool} (h : (l.headD 0 = 0 ∧ 0 < i) ∨ (bad || l.isEmpty) = true) : eyeN (f + 1) i n l bad = (0, [], true) := by
  cases l with
  | nil => rfl
  | cons c r => rw [eyeN, if_pos (by simpa using h)]
theorem eyeN_last {f i n : Nat} {l : List UInt8} {bad : Bool} (h : ¬ ((l.headD 0 = 0 ∧ 0 < i) ∨ (bad || l.isEmpty) = true)) (hc : (l.headD 0).toNat < 128) : eyeN (f + 1) i n l bad = (n + (l.headD 0).toNat % 128 * 2 ^ (7 * i), l.tail, bad || l.isEmpty) := by
  cases l with
  | nil => simp at h
  | cons c r => rw [eyeN, if_neg (by simpa using h), if_pos (by simpa using hc)]; simp
theorem eyeN_step {f i n : Nat} {l : List UInt8} {bad : Bool} (h : ¬ ((l.headD 0 = 0 ∧ 0 < i) ∨ (bad || l.isEmpty) = true)) (hc : ¬ (l.headD 0).toNat < 128) : eyeN (f + 1) i n l bad = eyeN f (i + 1) (n + (l.headD 0).toNat % 128 * 2 ^ (7 * i)) l.tail (bad || l.isEmpty) := by
  cases l with
  | nil => simp at h
  | cons c r => rw [eyeN, if_neg (by simpa using h), if_neg (by simpa using hc)]; simp
theorem eye_bound {n i : Nat} {c : UInt8} (h : n < 2 ^ (7 * i)) : n + c.toNat % 128 * 2 ^ (7 * i) < 2 ^ (7 * (i + 1)) := by
  have h1 : c.toNat % 128 ≤ 127 := by omega
  have h2 : c.toNat % 128 * 2 ^ (7 * i) ≤ 127 * 2 ^ (7 * i) := Nat.mul_le_mul_right _ h1
  have h3 : 2 ^ (7 * (i + 1)) = 128 * 2 ^ (7 * i) := by rw [Nat.mul_add, Nat.pow_add, Nat.mul_comm]
  omega
theorem pow_small {i : Nat} (h : i ≤ 9) : 2 ^ (7 * i) ≤ 9223372036854775808 := by
  have : 2 ^ (7 * i) ≤ 2 ^ 63 := Nat.pow_le_pow_right (by decide) (by omega)
  simpa using this
theorem flat_step {α β : Type} {f : α → List β} {l : List α} {i : Nat} (h : i < l.length) : (l.take (i + 1)).flatMap f = (l.take i).flatMap f ++ f l[i] := by
  rw [List.take_succ_eq_append_getElem h, List.flatMap_append]; simp
theorem flat_take_len {α β : Type} {f : α → List β} {l : List α} (i : Nat) : ((l.take i).flatMap f).length ≤ (l.flatMap f).length := by
  have h : l.flatMap f = (l.take i).flatMap f ++ (l.drop i).flatMap f := by rw [← List.flatMap_append, List.take_append_drop]
  rw [h, List.length_append]; omega


def numV : List UInt8 → Nat
  | [] => 0
  | c :: r => c.toNat % 128 + 128 * numV r
/-- How many bytes there are ahead of the first one below 128. -/
def lead : List UInt8 → Nat
  | [] => 0
  | c :: r => if c.toNat < 128 then 0 else lead r + 1
theorem lead_le : ∀ l : List UInt8, lead l ≤ l.length
  | [] => Nat.le_refl _
  | c :: r => by
    unfold lead
    split
    · exact Nat.zero_le _
    · have := lead_le r; simp only [List.length_cons]; omega
/-- A number taken off bytes, and how many they are. -/
def tkN (l : List UInt8) : Option (Nat × Nat) :=
  if l.length ≤ lead l ∨ 8 < lead l ∨ ((l[lead l]?).getD 1 = 0 ∧ 0 < lead l) then none else some (numV (l.take (lead l + 1)), lead l + 1)
def tkG (f i : Nat) (l : List UInt8) : Prop := l.length ≤ lead l ∨ f ≤ lead l ∨ ((l[lead l]?).getD 1 = 0 ∧ 0 < i + lead l)
instance (f i : Nat) (l : List UInt8) : Decidable (tkG f i l) := by unfold tkG; infer_instance
theorem eyeN_tk : ∀ (f i n : Nat) (l : List UInt8), eyeN f i n l false = if tkG f i l then (0, [], true) else (n + numV (l.take (lead l + 1)) * 2 ^ (7 * i), l.drop (lead l + 1), false)
  | 0, i, n, l => by
    rw [if_pos (show tkG 0 i l from .inr (.inl (Nat.zero_le _)))]; rfl
  | f + 1, i, n, [] => by
    rw [if_pos (show tkG (f + 1) i [] from .inl (Nat.zero_le _))]; rfl
  | f + 1, i, n, c :: r => by
    rw [eyeN]
    by_cases hc : c.toNat < 128
    · have hl : lead (c :: r) = 0 := by unfold lead; rw [if_pos hc]
      have ht : tkG (f + 1) i (c :: r) ↔ (c = 0 ∧ 0 < i) := by
        unfold tkG
        rw [hl]
        simp
      by_cases h0 : c = 0 ∧ 0 < i
      · rw [if_pos (.inl h0), if_pos (ht.2 h0)]
      · rw [if_neg (by simpa using h0), if_pos hc, if_neg (fun h => h0 (ht.1 h)), hl]
        simp [numV]
    · have hl : lead (c :: r) = lead r + 1 := by rw [lead, if_neg hc]
      have hz : c ≠ 0 := fun e => by subst e; exact hc (by decide)
      have ht : tkG (f + 1) i (c :: r) ↔ tkG f (i + 1) r := by
        unfold tkG
        rw [hl]
        simp only [List.length_cons, List.getElem?_cons_succ]
        constructor
        · rintro (h | h | h)
          · exact .inl (by omega)
          · exact .inr (.inl (by omega))
          · exact .inr (.inr ⟨h.1, by omega⟩)
        · rintro (h | h | h)
          · exact .inl (by omega)
          · exact .inr (.inl (by omega))
          · exact .inr (.inr ⟨h.1, by omega⟩)
      rw [if_neg (by simpa using fun h => absurd h hz), if_neg hc, eyeN_tk f (i + 1)]
      by_cases hg : tkG f (i + 1) r
      · rw [if_pos hg, if_pos (ht.2 hg)]
      · rw [if_neg hg, if_neg (fun h => hg (ht.1 h)), hl]
        have e : 2 ^ (7 * (i + 1)) = 128 * 2 ^ (7 * i) := by rw [Nat.mul_add, Nat.pow_add, Nat.mul_comm]
        rw [List.take_succ_cons, List.drop_succ_cons, numV, e, Nat.add_mul, Nat.add_assoc, Nat.mul_right_comm, Nat.mul_comm (numV _) (128 * _), Nat.mul_right_comm]
theorem numE_tk (l : List UInt8) : numE l false = match tkN l with
    | none => (0, [], true)
    | some (m, k) => (m, l.drop k, false) := by
  unfold numE tkN
  rw [eyeN_tk]
  have e : tkG 9 0 l ↔ (l.length ≤ lead l ∨ 8 < lead l ∨ ((l[lead l]?).getD 1 = 0 ∧ 0 < lead l)) := by unfold tkG; rw [Nat.zero_add]; exact Iff.rfl
  by_cases h : tkG 9 0 l
  · rw [if_pos h, if_pos (e.1 h)]
  · rw [if_neg h, if_neg (fun k => h (e.2 k))]
    simp
theorem numE_bad (l : List UInt8) : numE l true = (0, [], true) := by
  unfold numE
  cases l with
  | nil => rfl
  | cons c r => rw [eyeN, if_pos (.inr rfl)]

theorem lead_stop : ∀ {l : List UInt8} (h : lead l < l.length), (l[lead l]'h).toNat < 128
  | [], h => by simp at h
  | c :: r, h => by
    by_cases hc : c.toNat < 128
    · have hl : lead (c :: r) = 0 := by unfold lead; rw [if_pos hc]
      simp only [hl, List.getElem_cons_zero]; exact hc
    · have hl : lead (c :: r) = lead r + 1 := by rw [lead, if_neg hc]
      have h' : lead r < r.length := by rw [hl, List.length_cons] at h; omega
      simp only [hl, List.getElem_cons_succ]; exact lead_stop h'
theorem lead_go : ∀ {l : List UInt8} {j : Nat} (hj : j < lead l) (h : j < l.length), 128 ≤ (l[j]'h).toNat
  | [], _, hj, _ => by simp [lead] at hj
  | c :: r, j, hj, h => by
    by_cases hc : c.toNat < 128
    · unfold lead at hj; rw [if_pos hc] at hj; omega
    · have hl : lead (c :: r) = lead r + 1 := by rw [lead, if_neg hc]
      cases j with
      | zero => simp only [List.getElem_cons_zero]; omega
      | succ j => simp only [List.getElem_cons_succ]; exact lead_go (by omega) _
theorem numV_lt : ∀ l : List UInt8, numV l < 128 ^ l.length
  | [] => by simp [numV]
  | c :: r => by
    have := numV_lt r
    rw [numV, List.length_cons, Nat.pow_succ]
    omega
theorem numV_back {l : List UInt8} {c : Nat} (h : c < l.length) : numV (l.drop c) = l[c].toNat % 128 + 128 * numV (l.drop (c + 1)) := by
  rw [List.drop_eq_getElem_cons h, numV]
theorem numV_small {l : List UInt8} {c : Nat} (h : l.length ≤ 9) : numV (l.drop c) < 9223372036854775808 := by
  have h1 := numV_lt (l.drop c)
  have h2 : 128 ^ (l.drop c).length ≤ 128 ^ 9 := Nat.pow_le_pow_right (by decide) (by rw [List.length_drop]; omega)
  omega

/-! ## What is put is got again -/

theorem lead_num (f n : Nat) (r : List UInt8) (hn : n < 128 ^ (f + 1)) : lead (numG f n ++ r) + 1 = (numG f n).length ∧ numV (numG f n) = n ∧ (0 < lead (numG f n ++ r) → ((numG f n ++ r)[lead (numG f n ++ r)]?).getD 1 ≠ 0) := by
  have key : ∀ m : Nat, m < 128 → (UInt8.ofNat m).toNat = m := fun m h => by rw [UInt8.toNat_ofNat']; omega
  induction f generalizing n with
  | zero =>
    have h : n < 128 := by simpa using hn
    have hl : lead (numG 0 n ++ r) = 0 := by simp [numG, lead, key n h, h]
    rw [hl]
    refine ⟨by simp [numG], by simp [numG, numV, key n h]; omega, fun h => absurd h (Nat.lt_irrefl _)⟩
  | succ f ih =>
    by_cases h : n < 128
    · have e : numG (f + 1) n = [UInt8.ofNat n] := by rw [numG, if_pos h]
      have hl : lead (numG (f + 1) n ++ r) = 0 := by simp [e, lead, key n h, h]
      rw [hl, e]
      refine ⟨by simp, by simp [numV, key n h]; omega, fun h => absurd h (Nat.lt_irrefl _)⟩
    · have e : numG (f + 1) n = UInt8.ofNat (128 + n % 128) :: numG f (n / 128) := by rw [numG, if_neg h]
      have hb : (UInt8.ofNat (128 + n % 128)).toNat = 128 + n % 128 := by rw [UInt8.toNat_ofNat']; omega
      obtain ⟨h1, h2, h3⟩ := ih (n / 128) (by rw [Nat.pow_succ] at hn; omega)
      have hl : lead (numG (f + 1) n ++ r) = lead (numG f (n / 128) ++ r) + 1 := by rw [e, List.cons_append, lead, if_neg (by omega)]
      rw [hl, e]
      refine ⟨by simp only [List.length_cons]; omega, by rw [numV, h2, hb]; omega, fun _ => ?_⟩
      rw [List.cons_append, List.getElem?_cons_succ]
      by_cases hp : 0 < lead (numG f (n / 128) ++ r)
      · exact h3 hp
      · have h0 : lead (numG f (n / 128) ++ r) = 0 := by omega
        rw [h0] at h1 ⊢
        -- one byte, and it is not zero
        have hlen : (numG f (n / 128)).length = 1 := by omega
        have hq : n / 128 < 128 ∨ f = 0 := by
          by_cases hq : n / 128 < 128
          · exact .inl hq
          · cases f with
            | zero => exact .inr rfl
            | succ f =>
              rw [numG, if_neg hq] at hlen
              cases f <;> simp [numG] at hlen
              split at hlen <;> simp at hlen
        have hq2 : n / 128 < 128 := by
          rcases hq with h | h
          · exact h
          · subst h; rw [Nat.pow_succ, Nat.pow_one] at hn; omega
        have e2 : numG f (n / 128) = [UInt8.ofNat (n / 128)] := by
          cases f with
          | zero => rfl
          | succ f => rw [numG, if_pos hq2]
        rw [e2]
        intro h
        have h' : UInt8.ofNat (n / 128) = 0 := by simpa using h
        have := congrArg UInt8.toNat h'
        rw [key _ hq2] at this
        have h00 : (0 : UInt8).toNat = 0 := rfl
        omega
theorem numY_len9 {n : Nat} (h : n < 9223372036854775808) : (numY n).length ≤ 9 := by
  have e : numY n = numG 8 n := numG_more 8 n (by omega)
  rw [e]; exact numG_len 8 n
theorem numE_num {n : Nat} (hn : n < 9223372036854775808) (r : List UInt8) : numE (numY n ++ r) false = (n, r, false) := by
  have h9 := numY_len9 hn
  obtain ⟨h1, h2, h3⟩ := lead_num 9 n r (by omega)
  have e : numG 9 n = numY n := rfl
  rw [e] at h1 h2 h3
  rw [numE_tk, tkN, if_neg]
  · have ht : (numY n ++ r).take (lead (numY n ++ r) + 1) = numY n := by rw [h1]; simp
    have hd : (numY n ++ r).drop (lead (numY n ++ r) + 1) = r := by rw [h1]; simp
    simp only [ht, hd, h2]
  · rintro (h | h | ⟨h, h'⟩)
    · rw [List.length_append] at h; omega
    · omega
    · exact h3 h' h
theorem textE_text {s : ByteArray} (hs : s.size < 140737488355328) (r : List UInt8) : textE (textB s ++ r) false = (s, r, false) := by
  have e : numE (textB s ++ r) false = (s.size, s.data.toList ++ r, false) := by rw [textB, List.append_assoc]; exact numE_num (by omega) _
  have hl : s.data.toList.length = s.size := by simp
  unfold textE
  rw [e]
  simp only
  rw [if_neg (by rw [List.length_append]; omega)]
  have h1 : (s.data.toList ++ r).take s.size = s.data.toList := by rw [← hl]; simp
  have h2 : (s.data.toList ++ r).drop s.size = r := by rw [← hl]; simp
  rw [h1, h2]
/-- A text taken off bytes, and how many they are. -/
def tkT (l : List UInt8) : Option (ByteArray × Nat) :=
  match tkN l with
  | none => none
  | some (m, k) => if l.length - k < m then none else some (⟨((l.drop k).take m).toArray⟩, k + m)
theorem tkN_le {k : List UInt8} {m q : Nat} (h : tkN k = some (m, q)) : q ≤ k.length ∧ m < 9223372036854775808 := by
  unfold tkN at h
  split at h
  · cases h
  · rename_i hn
    cases h
    have h1 : ¬ k.length ≤ lead k := fun e => hn (.inl e)
    have h2 : ¬ 8 < lead k := fun e => hn (.inr (.inl e))
    refine ⟨by omega, ?_⟩
    have := numV_small (l := k.take (lead k + 1)) (c := 0) (by rw [List.length_take]; omega)
    rwa [List.drop_zero] at this
theorem tkT_le {k : List UInt8} {s : ByteArray} {q : Nat} (h : tkT k = some (s, q)) : q ≤ k.length := by
  unfold tkT at h
  cases hq : tkN k with
  | none => rw [hq] at h; cases h
  | some z =>
    obtain ⟨m, j⟩ := z
    rw [hq] at h
    have := tkN_le hq
    simp only at h
    split at h
    · cases h
    · cases h; omega
theorem textE_tk (l : List UInt8) : textE l false = match tkT l with
    | none => (⟨#[]⟩, [], true)
    | some (s, k) => (s, l.drop k, false) := by
  unfold textE tkT
  rw [numE_tk]
  cases h : tkN l with
  | none => rfl
  | some q =>
    obtain ⟨m, k⟩ := q
    simp only [List.length_drop]
    split
    · rfl
    · simp [List.drop_drop]
end Rw
