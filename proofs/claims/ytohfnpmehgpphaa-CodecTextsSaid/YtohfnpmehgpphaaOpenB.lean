/- What came in reads as data: bytes, texts. No program in sight. -/
import Derived.Test.YtohfnpmehgpphaaOpen
namespace Rw
open Go Go.RowKit
variable {H : Type} {P : Program}
theorem opens_byte {Q : TypeId → DataW H → Prop} {t : TypeId} (ht : P.underlying t = some (.int .u8)) (hc : P.cellsOf t = 1) : Opens (α := UInt8) P Q t (fun _ => True) := by
  refine ⟨hc, fun enc w fuel cs d ps h _ => ?_⟩
  obtain ⟨n, rfl, _, hw⟩ := DataW.trod_int ht h
  have : 0 ≤ n ∧ n ≤ 255 := by simpa [Lit.wf, IntKind.min, IntKind.max, IntKind.signed, IntKind.bits] using hw
  refine ⟨.int .u8 n, UInt8.ofNat n.toNat, rfl, ?_, trivial⟩
  show Value.int .u8 n = Value.int .u8 ((UInt8.ofNat n.toNat).toNat : Int)
  congr 1
  rw [UInt8.toNat_ofNat']
  omega
theorem open_str {t : TypeId} (ht : P.underlying t = some .string) {enc : TypeId × Value → H} {w : World} {s : ByteArray} {d : DataW H} {ps : List MemPlace}
    (h : DataW.Trod enc P w 0 (fun _ => true) true t (.string s) d ps) (hQ : Wq P t d) : s.size < 140737488355328 := by
  obtain ⟨fuel, hf⟩ := h
  obtain ⟨s', hc, hx, _⟩ := DataW.trod_string ht hf
  cases hx
  have h1 := wq_string _ hQ
  have h2 : s = s' := by simpa [Value.cells] using hc
  subst h2
  simpa using h1
end Rw
