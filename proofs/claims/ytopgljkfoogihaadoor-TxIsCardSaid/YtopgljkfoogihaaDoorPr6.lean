/- Row; TxAw; Eqh: put together for the claim. -/
import Derived.Test.YtopgljkfoogihaaDoorApp
import Derived.Test.YtopgljkfoogihaaDoorCMath
import Derived.Test.YtopgljkfoogihaaDoorTxG3
import Derived.Test.YtopgljkfoogihaaDoorTxP
import Derived.Test.YtopgljkfoogihaaDoorTxLw
import Derived.Test.YtopgljkfoogihaaDoorSl
import Derived.Stop.BytesEq
/- A slice of bytes that came in. -/
namespace Go.Proofs.YtopgljkfoogihaaDoor
open Go.RowKit

/-- a slice of bytes that came in -/
theorem row_bytes {w : World} {a : Option Addr} {len cap : Nat} {zs : List Int}
    (h : (a = none ∧ len = 0 ∧ cap = 0 ∧ zs = []) ∨ ∃ x, a = some x ∧ len ≤ cap ∧ cap ≤ maxLen ∧ zs.length = cap ∧ (∀ i, i < zs.length → w.cell? (x.add i) = some (.int .u8 (zs.getD i 0))) ∧ ∀ n ∈ zs, (Lit.int .u8 n).wf = true) :
    ∃ bs : List UInt8, bs.length = len ∧ len ≤ cap ∧ cap ≤ maxLen ∧ Rd w a (bs.map bv) := by
  rcases h with ⟨rfl, rfl, rfl, rfl⟩ | ⟨x, rfl, hl, hm, hz, hc, hw⟩
  · exact ⟨[], rfl, Nat.le_refl _, by simp [maxLen], Rd.nil _ _⟩
  · refine ⟨(zs.take len).map fun n => UInt8.ofNat n.toNat, by rw [List.length_map, List.length_take]; omega, hl, hm, ?_⟩
    by_cases h0 : zs.length = 0
    · have : zs = [] := List.eq_nil_of_length_eq_zero h0
      subst this
      simp
      exact Rd.nil _ _
    · have hx : x = ⟨x.block, x.off, none⟩ := by
        have := hc 0 (by omega)
        have hs : x.spot = none := by
          cases hsp : x.spot with
          | none => rfl
          | some s =>
            simp [World.cell?, Addr.add, hsp] at this
            split at this <;> simp at this
        cases x
        simp_all
      refine .inr ⟨x.block, x.off, by rw [← hx], fun j u hu => ?_⟩
      simp only [List.map_map, List.getElem?_map, List.getElem?_take] at hu
      split at hu
      · cases hz2 : zs[j]? with
        | none => rw [hz2] at hu; simp at hu
        | some n =>
          rw [hz2] at hu
          have hj := (List.getElem?_eq_some_iff.1 hz2).1
          have hcj := hc j hj
          rw [hx, addr_add] at hcj
          rw [hcj]
          have hn := hw n (List.mem_of_getElem? hz2)
          have hb : 0 ≤ n ∧ n ≤ 255 := by simpa [Lit.wf, IntKind.min, IntKind.max, IntKind.signed, IntKind.bits] using hn
          have hg : zs.getD j 0 = n := by simp [List.getD, hz2]
          simp only [Option.map_some, Option.some.injEq, Function.comp] at hu
          have e : ((UInt8.ofNat n.toNat).toNat : Int) = n := by rw [Cm.u8_ofNat n.toNat (by omega)]; omega
          rw [hg, ← hu, bv, e]
      · simp at hu
end Go.Proofs.YtopgljkfoogihaaDoor
/- florinlaw08: awake. -/
namespace Go.Proofs.YtopgljkfoogihaaDoor
open Go.RowKit
attribute [local go_sem high] slB_lh slB_l slB_h

def exT : TTx := ⟨0, [⟨List.replicate 32 0, 0, [], 0⟩], [⟨0, []⟩], 0⟩
def exB : List UInt8 := txB exT
theorem exB_length : exB.length = 60 := by decide +kernel
theorem exB_get : (txGet exB).2.1 = 60 ∧ (txGet exB).2.2 = 0 ∧ (txGet exB).1.ins.length = 1 := by decide +kernel
abbrev exI : TIn × Sl := (⟨List.replicate 32 0, 0, [], 0⟩, (none, 0))
abbrev exO : TOut × Sl := (⟨0, []⟩, (none, 0))
theorem exI_cells : inc exI = List.replicate 32 (Value.int .u8 0) ++ [.int .u32 0, .slice none 0 0, .int .u32 0] := by
  rw [inc, zeros_map]; rfl

set_option maxRecDepth 100000 in
set_option maxHeartbeats 2000000 in
theorem awake8 (w : World) : Calls Tryd.prog 5 #[] w fun e w' => e = .returned (.bool true) ∧ Below w.heap.size w w' := by
  obtain ⟨zi, hzi⟩ : ∃ zi, zi = inc exI := ⟨_, rfl⟩
  have hzl : zi.length = 35 := by rw [hzi, exI_cells]; simp
  have hzc : zi = List.replicate 32 (Value.int .u8 0) ++ [.int .u32 0, .slice none 0 0, .int .u32 0] := by rw [hzi, exI_cells]
  have hze : (Value.agg #[.int .u8 0, .int .u8 0, .int .u8 0, .int .u8 0, .int .u8 0, .int .u8 0, .int .u8 0, .int .u8 0, .int .u8 0, .int .u8 0, .int .u8 0, .int .u8 0, .int .u8 0, .int .u8 0, .int .u8 0, .int .u8 0, .int .u8 0, .int .u8 0, .int .u8 0, .int .u8 0, .int .u8 0, .int .u8 0, .int .u8 0, .int .u8 0, .int .u8 0, .int .u8 0, .int .u8 0, .int .u8 0, .int .u8 0, .int .u8 0, .int .u8 0, .int .u8 0, .int .u32 0, .slice none 0 0, .int .u32 0]) = Value.agg zi.toArray := by rw [hzc]; rfl
  obtain ⟨W, hW⟩ : ∃ W, W = (w.alloc (.cells zi.toArray 58)).alloc (.cells #[.int .u64 0, .slice none 0 0] 61) := ⟨_, rfl⟩
  have bW : Below w.heap.size w W := by rw [hW]; exact ((Below.refl _ _).alloc (Nat.le_refl _) _).alloc (by simp) _
  have rI : RdIns W (some ⟨w.heap.size, 0, none⟩) [exI] := by
    refine ⟨?_, fun e he => ?_⟩
    · have : Av W w.heap.size 58 zi := by rw [hW]; exact heap_alloc2_old _ _ _
      rw [icl, List.flatMap_cons, List.flatMap_nil, List.append_nil, ← hzi]
      exact this.rd
    · rw [List.mem_singleton.1 he]
      exact ⟨⟨by simp, by simp, by simp⟩, Rd.nil _ _, by simp⟩
  have rO : RdOuts W (some ⟨w.heap.size + 1, 0, none⟩) [exO] := by
    refine ⟨?_, fun e he => ?_⟩
    · have : Av W (w.heap.size + 1) 61 [.int .u64 0, .slice none 0 0] := by rw [hW]; exact heap_alloc2_new _ _ _
      exact this.rd
    · rw [List.mem_singleton.1 he]
      exact ⟨by simp [TOut.ok], Rd.nil _ _, by simp⟩
  have HP := TPut_ok 0 0 (by omega) (by omega) [exI] [exO] (some ⟨w.heap.size, 0, none⟩) (some ⟨w.heap.size + 1, 0, none⟩) 1 1 1 1 rfl rfl W rI rO (by decide +kernel)
  rw [show txB (txOf 0 [exI] [exO] 0) = exB from rfl] at HP
  replace HP := Lib.hid HP
  replace hzl := Lib.hid hzl
  replace hW := Lib.hid hW
  clear hzi hzc rI rO
  go_enter Tryd.func5, Tryd.ntmps5
  go_wp2_with (first
    | refine wpList_execW rfl (exec_build1 Tryd.underlying33 infoI zeroI (by decide) (by decide) w zi hzl.out _ rfl (by first | exact hze | rfl)) ?_
    | refine wpList_execW rfl (exec_build1 Tryd.underlying34 infoO zeroO (by decide) (by decide) _ [.int .u64 0, .slice none 0 0] rfl _ rfl rfl) ?_)
  rw [← hW.out]
  refine HP.out.mono ?_
  rintro e w1 ⟨v, rfl, ho, b1⟩
  obtain ⟨A, c, rfl, hc, _⟩ := ho.formN 60 exB_length
  have bw1 : Below w.heap.size w w1 := bW.trans (b1.mono bW.size)
  have HG := TGet exB A 60 c exB_length hc (by omega) w1 ho.rd
  rw [exB_get.1, exB_get.2.1, show ((60 : Nat) : Int) = 60 from rfl, show ((0 : Nat) : Int) = 0 from rfl] at HG
  have hsn := (txGet_ok exB exB_get.2.1).2.1
  have hin := exB_get.2.2
  generalize (txGet exB).1 = T at *
  replace HG := Lib.hid HG
  replace HP := trivial
  clear ho
  go_wp2_with fail
  refine HG.out.mono ?_
  rintro e w2 ⟨⟨v2, rfl, A1, A2, n1, n2, c1, c2, l, m, rfl, hl1, hl2, hc1, hc2, r1, r2, hm1, hm2, hv, hlk⟩, b2⟩
  have bw2 : Below w.heap.size w w2 := bw1.trans (b2.mono bw1.size)
  have hT : txOf T.ver l m T.lock = T := by rw [txOf, hm1, hm2]
  have HS := fun w' q1 q2 => TSane T.ver T.lock l m A1 A2 n1 n2 c1 c2 hl1 hl2 w' q1 q2
  rw [hT, hsn] at HS
  replace HS := Lib.hid HS
  have hn1 : n1 = 1 := by rw [← hl1, ← hin, ← hm1, List.length_map]
  subst hn1
  clear hsn hin hT hl1 hl2 hm1 hm2 HG
  generalize (T.ver : Int) = V at *
  generalize (T.lock : Int) = K at *
  go_upto_region 3 with (refine wpList_storeAv ((Below.refl w2.heap.size w2).alloc (Nat.le_refl _) _) (heap_alloc_new _ _) (Nat.le_refl _) rfl _ _ _ rfl rfl [.int .u32 V, .slice A1 1 c1, .slice A2 n2 c2, .int .u32 K] rfl 4 rfl (by kernel_rfl) rfl rfl ?_; intro w3 a3 b3 k3 z3; clear k3; replace z3 := Lib.hid z3)
  have bw3 : Below w.heap.size w w3 := bw2.trans (b3.mono bw2.size)
  have hc3 := a3.cell 1 _ rfl
  have q1 := r1.below b3
  have q2 := r2.below b3
  replace r1 := Lib.hid r1
  replace r2 := Lib.hid r2
  go_wp2_with (first
    | refine wpList_execW rfl (exec_loadAv a3 _ _ rfl rfl _ 4 rfl Tryd.underlying36 rfl (by kernel_rfl)) ?_
    | (go_at_call 12; refine (HS.out _ q1 q2).mono ?_; rintro e w4 ⟨rfl, b4⟩))
  go_ret
  exact ⟨rfl, bw3.trans (b4.mono bw3.size)⟩

end Go.Proofs.YtopgljkfoogihaaDoor
/- Hashes and strings compared. -/
namespace Go.Proofs.YtopgljkfoogihaaDoor
open Go.RowKit
theorem sizeOf_u8 (w : World) : (sizeOf 5).run Tryd.prog w = .ok 1 w := by
  obtain ⟨i0, hi, hz⟩ := Option.map_eq_some_iff.1 size_u8
  simp [sizeOf, typeInfo, hi, hz]
theorem eqlP (x y : List UInt8) (hx : x.length = 32) (hy : y.length = 32) (w : World) : (binOp .eql 39 (.agg (x.map bv).toArray) (.agg (y.map bv).toArray)).run Tryd.prog w = .ok (.bool (x == y)) w :=
  run_eql_bytes w 39 5 32 Tryd.underlying39 Tryd.underlying5 sizeOf_u8 x y hx hy
theorem neqP (x y : List UInt8) (hx : x.length = 32) (hy : y.length = 32) (w : World) : (binOp .neq 39 (.agg (x.map bv).toArray) (.agg (y.map bv).toArray)).run Tryd.prog w = .ok (.bool (!(x == y))) w := by
  have h := run_equalIn_bytes w 9998 39 5 32 Tryd.underlying39 Tryd.underlying5 sizeOf_u8 x y hx hy
  rw [run_neq_struct]
  exact (congrArg (fun r : Result Bool => r.andThen fun b w' => .ok (Value.bool (!b)) w') h)
theorem map_take_step {α β : Type} (f : α → β) (a b : List α) (k : Nat) (x y : α) (hx : a[k]? = some x) (hy : b[k]? = some y) (h : (a.take k).map f = (b.take k).map f) (hd : f x = f y) : (a.take (k + 1)).map f = (b.take (k + 1)).map f := by
  rw [List.take_add_one, List.take_add_one, List.map_append, List.map_append, h, hx, hy]
  simp [hd]
end Go.Proofs.YtopgljkfoogihaaDoor
