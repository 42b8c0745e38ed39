/- Plain laws on slots. No program in sight. -/
import Derived.Test.YtohfnpmehgpphaaPlainL
import Derived.Test.YtohfnpmehgpphaaPlainN
namespace Rw
open Go

/-- The slots of sorted fields. -/
def slotsF (l : List Fld) : List Slo := l.mapIdx fun i f => ⟨f.name, (cntN (l.take i) f.name : Nat)⟩
theorem slots_len (l : List Fld) : (slotsF l).length = l.length := by simp [slotsF]
theorem slots_get {l : List Fld} {i : Nat} (h : i < l.length) : (slotsF l)[i]? = some ⟨l[i].name, (cntN (l.take i) l[i].name : Nat)⟩ := by
  unfold slotsF
  rw [List.getElem?_mapIdx, List.getElem?_eq_getElem h]; rfl
theorem slots_take {l : List Fld} {i : Nat} (h : i < l.length) {z : Int} (hz : z = (cntN (l.take i) l[i].name : Nat)) : (slotsF l).take i ++ [⟨l[i].name, z⟩] = (slotsF l).take (i + 1) := by
  subst hz
  rw [List.take_add_one, slots_get h]; rfl
theorem slots_tlen {l : List Fld} {i : Nat} (h : i ≤ l.length) : ((slotsF l).take i).length = i := by rw [List.length_take, slots_len]; omega
theorem slots_tget {l : List Fld} {i j : Nat} (h : i < l.length) (hj : i < j) : ((slotsF l).take j)[i]? = some ⟨l[i].name, (cntN (l.take i) l[i].name : Nat)⟩ := by
  rw [List.getElem?_take_of_lt hj, slots_get h]
/-- The n-th field of a name. -/
def nthF (t : Ty) (name : ByteArray) (n : Int) : Pl × Int := bif rowB t && isWordB name then
    bif decide (0 ≤ n ∧ n < (cntN (flatF t).1 name : Nat)) then (⟨(lessN (flatF t).1 name : Nat) + n, (atP (flatF t).1 (flatF t).2 name).var, (atP (flatF t).1 (flatF t).2 name).name⟩, 0) else (plZ, 14)
  else (plZ, 1)
theorem nthF_bad {t : Ty} {name : ByteArray} {n : Int} (h : (rowB t && isWordB name) = false) : nthF t name n = (plZ, 1) := by rw [nthF, h]; rfl
theorem nthF_none {t : Ty} {name : ByteArray} {n : Int} (h : (rowB t && isWordB name) = true) (hn : ¬ (0 ≤ n ∧ n < (cntN (flatF t).1 name : Nat))) : nthF t name n = (plZ, 14) := by rw [nthF, h, decide_eq_false hn]; rfl
theorem nthF_some {t : Ty} {name : ByteArray} {n : Int} (h : (rowB t && isWordB name) = true) (hn : 0 ≤ n ∧ n < (cntN (flatF t).1 name : Nat)) : nthF t name n = (⟨(lessN (flatF t).1 name : Nat) + n, (atP (flatF t).1 (flatF t).2 name).var, (atP (flatF t).1 (flatF t).2 name).name⟩, 0) := by rw [nthF, h, decide_eq_true hn]; rfl
theorem atF_good {t : Ty} {name : ByteArray} (h : (rowB t && isWordB name) = true) : atF t name = (atP (flatF t).1 (flatF t).2 name, 0) := by rw [atF, h]; rfl
theorem atF_bad {t : Ty} {name : ByteArray} (h : (rowB t && isWordB name) = false) : atF t name = (plZ, 1) := by rw [atF, h]; rfl
theorem nthF_code (t : Ty) (name : ByteArray) (n : Int) : (nthF t name n).2 = 0 ∨ (nthF t name n).2 = 1 ∨ (nthF t name n).2 = 14 := by
  by_cases h : (rowB t && isWordB name) = true
  · by_cases hn : 0 ≤ n ∧ n < (cntN (flatF t).1 name : Nat)
    · rw [nthF_some h hn]; simp
    · rw [nthF_none h hn]; simp
  · rw [nthF_bad (by simpa using h)]; simp
theorem flatF_srt (t : Ty) : Srt (flatF t).1 := by
  unfold flatF
  cases rowB t
  · exact List.Pairwise.nil
  · exact fieldsF_srt _
theorem flatF_len (t : Ty) : (flatF t).1.length < psz t := by
  have := spine_len t
  have h0 := psz_pos t
  unfold flatF
  cases rowB t
  · simpa using h0
  · simpa [fieldsF_len] using this
theorem nth_none {l : List Fld} (hs : Srt l) {s : ByteArray} {n : Int} (h : n < 0 ∨ (lessN l s : Nat) + n ≥ l.length ∨ ∃ k : Nat, n = k ∧ ∃ h : lessN l s + k < l.length, l[lessN l s + k].name ≠ s) : ¬ (0 ≤ n ∧ n < (cntN l s : Nat)) := by
  rintro ⟨h0, h1⟩
  obtain ⟨k, rfl⟩ := Int.eq_ofNat_of_zero_le h0
  obtain ⟨ha, hb⟩ := (nth_iff hs s k).1 (by omega)
  rcases h with h | h | ⟨k2, e, _, hc⟩
  · omega
  · omega
  · obtain rfl : k = k2 := by omega
    exact hc hb
theorem nth_some {l : List Fld} (hs : Srt l) {s : ByteArray} {k : Nat} (h : lessN l s + k < l.length) (e : l[lessN l s + k].name = s) : 0 ≤ (k : Int) ∧ (k : Int) < (cntN l s : Nat) := ⟨by omega, by have := (nth_iff hs s k).2 ⟨h, e⟩; omega⟩
/-- A place's parts are small. -/
def PlOk (p : Pl) : Prop := I64 p.base ∧ I64 p.var ∧ p.name.size < 140737488355328
theorem spine_n64 {M : Nat → Prop} {w : World} : ∀ (t : Ty) (v : Value), Rep.R M w v t → I64 (spineF t).2.n := by
  refine Ty.ind fun t ih => ?_
  intro v h
  obtain ⟨kv, rfl, op, nm, n64, hk⟩ := ty_open h
  by_cases ho : t.op = 11
  · rw [spineF_eq]
    split
    · rename_i k r e
      have e1 : t.kids = [k.1, r.1] := by
        have := congrArg (List.map Prod.fst) e
        simpa [List.map_map, Function.comp_def] using this
      have e2 : r.2 = spineF r.1 := by
        rw [e1] at e
        simp at e
        rw [← e.2]
      rw [ho]
      simp only [decide_true, cond_true]
      rw [e2]
      obtain ⟨a, c, rfl, _, _, h3⟩ := hk
      rcases h3 with h3 | ⟨b, off, _, hx⟩
      · rw [e1] at h3; simp at h3
      · obtain ⟨u, hu, _⟩ := hx 1 r.1 (by rw [e1]; rfl)
        exact ih r.1 (by rw [e1]; simp) u hu
    · exact n64
  · rw [spine_no ho]; exact n64
theorem flat_n64 {t : Ty} (h : I64 (spineF t).2.n) : I64 (flatF t).2.n := by
  unfold flatF
  cases rowB t
  · exact (⟨by decide, by decide⟩ : I64 0)
  · exact h
theorem plZ_ok : PlOk plZ := ⟨⟨by decide, by decide⟩, ⟨by decide, by decide⟩, by decide⟩
theorem atP_ok {t : Ty} {name : ByteArray} (h : I64 (flatF t).2.n) (hsz : psz t ≤ 2000000) (hnm : name.size < 140737488355328) : PlOk (atP (flatF t).1 (flatF t).2 name) := by
  have h1 := flatF_len t
  have h2 := atBase_le (flatF t).1 name
  refine ⟨⟨?_, ?_⟩, ?_, ?_⟩
  · show _ ≤ ((atBase (flatF t).1 name : Nat) : Int); omega
  · show ((atBase (flatF t).1 name : Nat) : Int) ≤ _; omega
  · show I64 (bif _ then _ else _)
    cases decide ((flatF t).2.op = 10)
    · exact (⟨by decide, by decide⟩ : I64 (-1))
    · exact h
  · show (bif _ then _ else _ : ByteArray).size < _
    cases decide ((flatF t).2.op = 10)
    · exact (by decide : (⟨#[]⟩ : ByteArray).size < 140737488355328)
    · exact hnm
theorem atF_ok {t : Ty} {name : ByteArray} (h : I64 (flatF t).2.n) (hsz : psz t ≤ 2000000) (hnm : name.size < 140737488355328) : PlOk (atF t name).1 := by
  rcases hb : (rowB t && isWordB name) with _ | _
  · rw [atF_bad hb]; exact plZ_ok
  · rw [atF_good hb]; exact atP_ok h hsz hnm
theorem nthF_ok {t : Ty} {name : ByteArray} {n : Int} (h : I64 (flatF t).2.n) (hsz : psz t ≤ 2000000) (hnm : name.size < 140737488355328) : PlOk (nthF t name n).1 := by
  have hp := atP_ok h hsz hnm
  rcases hb : (rowB t && isWordB name) with _ | _
  · rw [nthF_bad hb]; exact plZ_ok
  · by_cases hn : 0 ≤ n ∧ n < (cntN (flatF t).1 name : Nat)
    · rw [nthF_some hb hn]
      have h1 := flatF_len t
      have h2 := lessN_le (flatF t).1 name
      have h3 := cntN_le (flatF t).1 name
      exact ⟨⟨by show _ ≤ ((lessN (flatF t).1 name : Nat) : Int) + n; omega, by show ((lessN (flatF t).1 name : Nat) : Int) + n ≤ _; omega⟩, hp.2⟩
    · rw [nthF_none hb hn]; exact plZ_ok
end Rw
