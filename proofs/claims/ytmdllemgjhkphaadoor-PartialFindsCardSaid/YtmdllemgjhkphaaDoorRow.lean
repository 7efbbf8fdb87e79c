/- A slice of bytes that came in. -/
import Derived.Test.YtmdllemgjhkphaaDoorApp
import Derived.Test.YtmdllemgjhkphaaDoorCMath
namespace Go.Proofs.YtmdllemgjhkphaaDoor
open Go.RowKit

/-- a slice of bytes that came in -/
theorem row_bytes {w : World} {a : Option Addr} {len cap : Nat} {zs : List Int}
    (h : (a = none ∧ len = 0 ∧ cap = 0 ∧ zs = []) ∨ ∃ x, a = some x ∧ len ≤ cap ∧ cap ≤ maxLen ∧ zs.length = cap ∧ (∀ i, i < zs.length → w.cell? (x.add i) = some (.int .u8 (zs.getD i 0))) ∧ ∀ n ∈ zs, (Lit.int .u8 n).wf = true) :
    ∃ bs : List UInt8, bs.length = len ∧ len ≤ cap ∧ cap ≤ maxLen ∧ Rd w a (bs.map bv) := by
  rcases h with ⟨rfl, rfl, rfl, rfl⟩ | ⟨x, rfl, hl, hm, hz, hc, hw⟩
  · exact ⟨[], rfl, Nat.le_refl _, by simp [maxLen], Rd.nil _ _⟩
  · refine ⟨(zs.take len).map fun n => UInt8.ofNat n.toNat, by rw [List.length_map, List.length_take]; omega, hl, hm, ?_⟩
    by_cases h0 : zs.length = 0
    · have : zs = [] := List.eq_nil_of_length_eq_zero h0
      subst this
      simp
      exact Rd.nil _ _
    · have hx : x = ⟨x.block, x.off, none⟩ := by
        have := hc 0 (by omega)
        have hs : x.spot = none := by
          cases hsp : x.spot with
          | none => rfl
          | some s =>
            simp [World.cell?, Addr.add, hsp] at this
            split at this <;> simp at this
        cases x
        simp_all
      refine .inr ⟨x.block, x.off, by rw [← hx], fun j u hu => ?_⟩
      simp only [List.map_map, List.getElem?_map, List.getElem?_take] at hu
      split at hu
      · cases hz2 : zs[j]? with
        | none => rw [hz2] at hu; simp at hu
        | some n =>
          rw [hz2] at hu
          have hj := (List.getElem?_eq_some_iff.1 hz2).1
          have hcj := hc j hj
          rw [hx, addr_add] at hcj
          rw [hcj]
          have hn := hw n (List.mem_of_getElem? hz2)
          have hb : 0 ≤ n ∧ n ≤ 255 := by simpa [Lit.wf, IntKind.min, IntKind.max, IntKind.signed, IntKind.bits] using hn
          have hg : zs.getD j 0 = n := by simp [List.getD, hz2]
          simp only [Option.map_some, Option.some.injEq, Function.comp] at hu
          have e : ((UInt8.ofNat n.toNat).toNat : Int) = n := by rw [Cm.u8_ofNat n.toNat (by omega)]; omega
          rw [hg, ← hu, bv, e]
      · simp at hu
end Go.Proofs.YtmdllemgjhkphaaDoor
