import Derived.Test.YtobjgebojhjhnaaDoorTa
import Derived.Test.YtobjgebojhjhnaaDoorQr9
namespace Go.Proofs.YtobjgebojhjhnaaDoor
open Go.RowKit
theorem TAdd (base R most : Nat) (v : Value) (Mp : Nat) (ns : List Nd) (h : Hd) (hh : h.ok) (w : World) (ht : Tabs w) (T : TAt w base R most v Mp ns) (hbase : base ≤ w.heap.size) :
  Calls Tryd.prog 33 #[.pointer (some ⟨R, 0, none⟩), .agg (hdc h).toArray] w fun e w' => e = .returned (.tuple #[.int .i64 (mAdd most ns h).2.1, .int .i64 ((mAdd most ns h).2.2 : Int)]) ∧ (∃ v', TAt w' base R most v' Mp (mAdd most ns h).1) ∧ Below base w w' ∧ KeepT w w' := by
 cases hk : tFind ns (hdId h) with
 | some i =>
  have e : mAdd most ns h = (ns, (i : Int), 10) := by unfold mAdd; rw [hk]
  rw [e]
  exact TAdd_known base R most v Mp ns h hh w ht T hbase i hk
 | none =>
  by_cases hn : ns.length = 0
  ·have hn0 : ns = [] := List.eq_nil_of_length_eq_zero hn
   have hm : mNode ns h = some ⟨hdId h, h, -1, 0, mWork h.bits⟩ := by rw [mNode, if_pos hn]
   by_cases hf : most ≤ ns.length
   ·have e : mAdd most ns h = (ns, -1, 12) := by unfold mAdd; rw [hk]; simp only [hm]; rw [if_pos hf]
    rw [e]
    exact TAdd_rootF base R most v Mp ns h hh w ht T hbase hk hn0 hf
   ·have e : mAdd most ns h = (ns ++ [⟨hdId h, h, -1, 0, mWork h.bits⟩], (ns.length : Int), 0) := by unfold mAdd; rw [hk]; simp only [hm]; rw [if_neg hf]
    rw [e]
    exact TAdd_root base R most v Mp ns h hh w ht T hbase hk hn0 hf
  ·cases hp : tFind ns h.prev with
   | none =>
    have hm : mNode ns h = none := by rw [mNode, if_neg hn, hp]
    have e : mAdd most ns h = (ns, -1, 9) := by unfold mAdd; rw [hk]; simp only [hm]
    rw [e]
    exact TAdd_orphan base R most v Mp ns h hh w ht T hbase hk (by omega) hp
   | some j =>
    obtain ⟨x, hx, _⟩ := tFind_some hp
    have hm : mNode ns h = some ⟨hdId h, h, (j : Int), x.hgt + 1, (x.wrk + mWork h.bits) % 115792089237316195423570985008687907853269984665640564039457584007913129639936⟩ := by rw [mNode, if_neg hn, hp]; simp only [hx]
    by_cases hf : most ≤ ns.length
    ·have e : mAdd most ns h = (ns, -1, 12) := by unfold mAdd; rw [hk]; simp only [hm]; rw [if_pos hf]
     rw [e]
     exact TAdd_childF base R most v Mp ns h hh w ht T hbase hk (by omega) j x hp hx hf
    ·have e : mAdd most ns h = (ns ++ [⟨hdId h, h, (j : Int), x.hgt + 1, (x.wrk + mWork h.bits) % 115792089237316195423570985008687907853269984665640564039457584007913129639936⟩], (ns.length : Int), 0) := by unfold mAdd; rw [hk]; simp only [hm]; rw [if_neg hf]
     rw [e]
     exact TAdd_child base R most v Mp ns h hh w ht T hbase hk (by omega) j x hp hx hf
end Go.Proofs.YtobjgebojhjhnaaDoor
