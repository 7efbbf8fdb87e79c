/- florinref08.reader: fail, number, hash, count, script. -/
import Derived.Test.YtopgljkfoogihaaDoorTxG3
import Derived.Test.YtopgljkfoogihaaDoorCRef
import Derived.Test.YtopgljkfoogihaaDoorRel
import Derived.Test.YtopgljkfoogihaaDoorPr4
import Derived.Test.YtopgljkfoogihaaDoorShE
import Derived.Test.YtopgljkfoogihaaDoorV1
namespace Go.Proofs.YtopgljkfoogihaaDoor
open Go.RowKit
attribute [local go_sem high] slB_lh slB_l slB_h
theorem bodyPost_endN8 {P : Program} {fn : Func} {R : Ending → World → Prop} {a : Act} {w : World} (hr : fn.results = #[]) (hd : a.defers = []) (hR : R (.returned (.tuple #[])) w) : bodyPost P fn R .normal a w :=
  bodyPost_end (v := .tuple #[]) (by simp [results, hr]) hd hR
theorem Fr.ofStore8 {B g : Nat} {w w2 : World} (b : Below B w w2) (k : ∀ k, k ≠ g → w2.heap[k]? = w.heap[k]?) (z : w2.heap.size = w.heap.size) : Fr (fun j => j = g) w w2 := ⟨b.os, b.tape, b.output, by rw [z]; exact Nat.le_refl _, fun j _ hj => k j hj⟩
theorem Av.newer8 (w : World) (l : List Value) (t : TypeId) (o : Obj) : Av ((w.alloc (.cells l.toArray t)).alloc o) w.heap.size t l :=
  Av.below (heap_alloc_new _ _) ((Below.refl _ _).alloc (Nat.le_refl _) _)
/-- the cells of a reader -/
def rdc8 (A : Option Addr) (n c a e : Nat) : List Value := [.slice A n c, .int .i64 (a : Int), .int .i64 (e : Int)]
/-- the world behind a method of a reader -/
def RdTo (R : Nat) (cells : List Value) (w w' : World) : Prop := Av w' R 79 cells ∧ Fr (fun k => k = R) w w'
theorem bounded_err {l : List UInt8} {most N K E : Nat} (h : Cm.bounded l most = (N, K, E)) (hE : E ≠ 0) : N = 0 ∧ K = 0 := by
  unfold Cm.bounded at h
  split at h
  · injection h with h1 h2
    injection h2 with h2 h3
    exact ⟨h1.symm, h2.symm⟩
  · split at h
    · injection h with h1 h2
      injection h2 with h2 h3
      exact ⟨h1.symm, h2.symm⟩
    · rename_i h1 _
      rw [h] at h1
      exact absurd hE h1
theorem bytes_err {l : List UInt8} {O : List UInt8} {K E : Nat} (h : Cm.bytes l 10000 = (O, K, E)) (hE : E ≠ 0) : O = [] ∧ K = 0 := by
  unfold Cm.bytes at h
  split at h
  · injection h with h1 h2
    injection h2 with h2 h3
    exact ⟨h1.symm, h2.symm⟩
  · split at h
    · injection h with h1 h2
      injection h2 with h2 h3
      exact ⟨h1.symm, h2.symm⟩
    · split at h
      · injection h with h1 h2
        injection h2 with h2 h3
        exact ⟨h1.symm, h2.symm⟩
      · injection h with h1 h2
        injection h2 with h2 h3
        exact absurd h3.symm hE
set_option maxRecDepth 10000 in
set_option maxHeartbeats 1000000 in
theorem RFail (A : Option Addr) (n c a e E R : Nat) (w : World) (hA : Av w R 79 (rdc8 A n c a e)) :
    Calls Tryd.prog 35 #[.pointer (some ⟨R, 0, none⟩), .int .i64 (E : Int)] w fun r w' => r = .returned (.tuple #[]) ∧ RdTo R (rdc8 A n c a (if e = 0 then E else e)) w w' := by
  unfold rdc8 at hA
  have c2 := hA.cell 2 _ rfl
  have f2 := frozen_of_row _ _ 2 _ _ hA
  by_cases he : e = 0
  · subst he
    rw [if_pos rfl]
    have hA2 := hA.set 2 (.int .i64 (E : Int))
    replace hA2 := Lib.hid hA2
    clear hA
    go_enter Tryd.func35, Tryd.ntmps35
    go_wp2
    exact bodyPost_endN8 rfl rfl ⟨rfl, hA2.out, Fr.setCell w ⟨R, 2, none⟩ _⟩
  · rw [if_neg he]
    have t2 : ((e : Int) == 0) = false := by simp; omega
    replace he := Lib.hid he
    replace hA := Lib.hid hA
    go_enter Tryd.func35, Tryd.ntmps35
    go_wp2
    exact bodyPost_endN8 rfl rfl ⟨rfl, hA.out, Fr.refl _ _⟩
set_option maxRecDepth 10000 in
set_option maxHeartbeats 2000000 in
theorem RNum_e (bs : List UInt8) (A : Option Addr) (n c : Nat) (hn : bs.length = n) (hm : n ≤ 1000000000000) (a e K : Nat) (hK : K ≤ 8) (ha : a ≤ n) (R : Nat) (w : World) (hA : Av w R 79 (rdc8 A n c a e)) (hr : Rd w A (bs.map bv)) (he : e ≠ 0) :
    Calls Tryd.prog 33 #[.pointer (some ⟨R, 0, none⟩), .int .i64 (K : Int)] w fun r w' => r = .returned (.int .u64 0) ∧ RdTo R (rdc8 A n c a e) w w' := by
  have HF := fun w h => RFail A n c a e 1 R w h
  rw [if_neg he] at HF
  have t2 : ((e : Int) != 0) = true := by simp; omega
  have _u := And.intro hn (And.intro hm (And.intro hK (And.intro ha hr)))
  clear _u hr hn hm hK ha
  replace he := Lib.hid he
  replace HF := Lib.hid HF
  unfold rdc8 at hA
  go_enter Tryd.func33, Tryd.ntmps33
  go_upto_region 1 with fail
  refine wp_region_rel [] Ext (by kernel_rfl) (by kernel_rfl) (by kernel_rfl) Ext.refl Ext.trans (by intro p hp; cases hp) ?_
  refine relMove Ext.refl rfl rfl rfl rfl _ (.inl rfl) (by conv => lhs; whnf) (by simp only [List.set_cons_succ, List.set_cons_zero]; rfl) ?_
  refine relPure Ext.refl rfl rfl rfl rfl (fun w _ => by go_simp; first | done | rfl) (by simp only [List.set_cons_succ, List.set_cons_zero]; rfl) ?_
  refine relPure Ext.refl rfl rfl rfl rfl (fun w _ => by go_simp; first | done | rfl) (by simp only [List.set_cons_succ, List.set_cons_zero]; rfl) ?_
  refine relPure Ext.refl rfl rfl rfl rfl (c := .int .i64 (e : Int)) (fun w hw => by have := (hA.below hw.drew).cell 2 _ rfl; go_simp; first | done | rfl) (by simp only [List.set_cons_succ, List.set_cons_zero]; rfl) ?_
  refine relPure Ext.refl rfl rfl rfl rfl (c := .bool true) (fun w hw => by go_simp; first | done | rfl) (by simp only [List.set_cons_succ, List.set_cons_zero]; rfl) ?_
  refine relMove Ext.refl rfl rfl rfl rfl _ (.inl rfl) (by conv => lhs; whnf) (by simp only [List.set_cons_succ, List.set_cons_zero]; rfl) ?_
  refine relSkip rfl rfl rfl rfl (by simp only [List.set_cons_succ, List.set_cons_zero]; rfl) ?_
  refine relSkip rfl rfl rfl rfl (by simp only [List.set_cons_succ, List.set_cons_zero]; rfl) ?_
  refine relSkip rfl rfl rfl rfl (by simp only [List.set_cons_succ, List.set_cons_zero]; rfl) ?_
  refine relSkip rfl rfl rfl rfl (by simp only [List.set_cons_succ, List.set_cons_zero]; rfl) ?_
  refine relSkip rfl rfl rfl rfl (by simp only [List.set_cons_succ, List.set_cons_zero]; rfl) ?_
  refine relSkip rfl rfl rfl rfl (by simp only [List.set_cons_succ, List.set_cons_zero]; rfl) ?_
  refine relSkip rfl rfl rfl rfl (by simp only [List.set_cons_succ, List.set_cons_zero]; rfl) ?_
  refine relSkip rfl rfl rfl rfl (by simp only [List.set_cons_succ, List.set_cons_zero]; rfl) ?_
  refine relSkip rfl rfl rfl rfl (by simp only [List.set_cons_succ, List.set_cons_zero]; rfl) ?_
  refine relSkip rfl rfl rfl rfl (by simp only [List.set_cons_succ, List.set_cons_zero]; rfl) ?_
  refine relSkip rfl rfl rfl rfl (by simp only [List.set_cons_succ, List.set_cons_zero]; rfl) ?_
  refine relSkip rfl rfl rfl rfl (by simp only [List.set_cons_succ, List.set_cons_zero]; rfl) ?_
  refine relPick Ext.refl rfl rfl rfl rfl _ _ _ rfl rfl (c := .bool true) rfl (by simp only [List.set_cons_succ, List.set_cons_zero]; rfl) ?_
  refine relEnd fun w2 hw2 => fill_end ?_
  have hA2 := hA.below hw2.drew
  have hF := Below.fr (S := fun k => k = R) hw2.drew
  have HF2 := Lib.hid (HF.out w2 hA2)
  clear hA HF
  go_wp2_with (go_at_call 35; refine (HF2.out).mono ?_; rintro r w3 ⟨rfl, a3, f3⟩)
  go_ret
  exact ⟨rfl, a3, hF.trans f3⟩
set_option maxRecDepth 10000 in
set_option maxHeartbeats 2000000 in
theorem RNum_s (bs : List UInt8) (A : Option Addr) (n c : Nat) (hn : bs.length = n) (hm : n ≤ 1000000000000) (a e K : Nat) (hK : K ≤ 8) (ha : a ≤ n) (R : Nat) (w : World) (hA : Av w R 79 (rdc8 A n c a e)) (hr : Rd w A (bs.map bv)) (he : e = 0) (hs : n - a < K) :
    Calls Tryd.prog 33 #[.pointer (some ⟨R, 0, none⟩), .int .i64 (K : Int)] w fun r w' => r = .returned (.int .u64 0) ∧ RdTo R (rdc8 A n c a 1) w w' := by
  subst he
  have HF := fun w h => RFail A n c a 0 1 R w h
  rw [if_pos rfl] at HF
  have t1 : decide ((n : Int) - (a : Int) < (K : Int)) = true := by simp; omega
  have e1 : IntKind.i64.wrap ((n : Int) - (a : Int)) = (n : Int) - (a : Int) := by rw [IntKind.wrap_i64]; omega
  have _u := And.intro hK hr
  clear _u hr hn hs
  replace HF := Lib.hid HF
  unfold rdc8 at hA
  go_enter Tryd.func33, Tryd.ntmps33
  go_upto_region 1 with fail
  refine wp_region_rel [] Ext (by kernel_rfl) (by kernel_rfl) (by kernel_rfl) Ext.refl Ext.trans (by intro p hp; cases hp) ?_
  refine relMove Ext.refl rfl rfl rfl rfl _ (.inl rfl) (by conv => lhs; whnf) (by simp only [List.set_cons_succ, List.set_cons_zero]; rfl) ?_
  refine relPure Ext.refl rfl rfl rfl rfl (fun w _ => by go_simp; first | done | rfl) (by simp only [List.set_cons_succ, List.set_cons_zero]; rfl) ?_
  refine relPure Ext.refl rfl rfl rfl rfl (fun w _ => by go_simp; first | done | rfl) (by simp only [List.set_cons_succ, List.set_cons_zero]; rfl) ?_
  refine relPure Ext.refl rfl rfl rfl rfl (c := .int .i64 0) (fun w hw => by have := (hA.below hw.drew).cell 2 _ rfl; go_simp; first | done | rfl) (by simp only [List.set_cons_succ, List.set_cons_zero]; rfl) ?_
  refine relPure Ext.refl rfl rfl rfl rfl (c := .bool false) (fun w hw => by go_simp; first | done | rfl) (by simp only [List.set_cons_succ, List.set_cons_zero]; rfl) ?_
  refine relMove Ext.refl rfl rfl rfl rfl _ (.inl rfl) (by conv => lhs; whnf) (by simp only [List.set_cons_succ, List.set_cons_zero]; rfl) ?_
  refine relMove Ext.refl rfl rfl rfl rfl _ (.inl rfl) (by conv => lhs; whnf) (by simp only [List.set_cons_succ, List.set_cons_zero]; rfl) ?_
  refine relPure Ext.refl rfl rfl rfl rfl (fun w _ => by go_simp; first | done | rfl) (by simp only [List.set_cons_succ, List.set_cons_zero]; rfl) ?_
  refine relPure Ext.refl rfl rfl rfl rfl (fun w _ => by go_simp; first | done | rfl) (by simp only [List.set_cons_succ, List.set_cons_zero]; rfl) ?_
  refine relPure Ext.refl rfl rfl rfl rfl (c := .slice A n c) (fun w hw => by have := (hA.below hw.drew).cell 0 _ rfl; go_simp; first | done | rfl) (by simp only [List.set_cons_succ, List.set_cons_zero]; rfl) ?_
  refine relPure Ext.refl rfl rfl rfl rfl (fun w _ => by go_simp; first | done | rfl) (by simp only [List.set_cons_succ, List.set_cons_zero]; rfl) ?_
  refine relMove Ext.refl rfl rfl rfl rfl _ (.inl rfl) (by conv => lhs; whnf) (by simp only [List.set_cons_succ, List.set_cons_zero]; rfl) ?_
  refine relPure Ext.refl rfl rfl rfl rfl (fun w _ => by go_simp; first | done | rfl) (by simp only [List.set_cons_succ, List.set_cons_zero]; rfl) ?_
  refine relPure Ext.refl rfl rfl rfl rfl (fun w _ => by go_simp; first | done | rfl) (by simp only [List.set_cons_succ, List.set_cons_zero]; rfl) ?_
  refine relPure Ext.refl rfl rfl rfl rfl (c := .int .i64 (a : Int)) (fun w hw => by have := (hA.below hw.drew).cell 1 _ rfl; go_simp; first | done | rfl) (by simp only [List.set_cons_succ, List.set_cons_zero]; rfl) ?_
  refine relPure Ext.refl rfl rfl rfl rfl (c := .int .i64 ((n : Int) - (a : Int))) (fun w hw => by have := e1; go_simp; first | done | rfl) (by simp only [List.set_cons_succ, List.set_cons_zero]; rfl) ?_
  refine relMove Ext.refl rfl rfl rfl rfl _ (.inl rfl) (by conv => lhs; whnf) (by simp only [List.set_cons_succ, List.set_cons_zero]; rfl) ?_
  refine relPure Ext.refl rfl rfl rfl rfl (c := .bool true) (fun w hw => by go_simp; first | done | rfl) (by simp only [List.set_cons_succ, List.set_cons_zero]; rfl) ?_
  refine relPick Ext.refl rfl rfl rfl rfl _ _ _ rfl rfl (c := .bool true) rfl (by simp only [List.set_cons_succ, List.set_cons_zero]; rfl) ?_
  refine relEnd fun w2 hw2 => fill_end ?_
  have hA2 := hA.below hw2.drew
  have hF := Below.fr (S := fun k => k = R) hw2.drew
  have HF2 := Lib.hid (HF.out w2 hA2)
  clear hA HF
  go_wp2_with (go_at_call 35; refine (HF2.out).mono ?_; rintro r w3 ⟨rfl, a3, f3⟩)
  go_ret
  exact ⟨rfl, a3, hF.trans f3⟩
set_option maxRecDepth 10000 in
set_option maxHeartbeats 2000000 in
theorem RNum_k (bs : List UInt8) (A : Option Addr) (n c : Nat) (hn : bs.length = n) (hm : n ≤ 1000000000000) (a e K : Nat) (hK : K ≤ 8) (ha : a ≤ n) (R : Nat) (w : World) (hA : Av w R 79 (rdc8 A n c a e)) (hr : Rd w A (bs.map bv)) (he : e = 0) (hs : ¬ n - a < K) (hK0 : 0 < K) :
    Calls Tryd.prog 33 #[.pointer (some ⟨R, 0, none⟩), .int .i64 (K : Int)] w fun r w' => r = .returned (.int .u64 (Cm.le ((bs.drop a).take K) : Int)) ∧ RdTo R (rdc8 A n c (a + K) 0) w w' := by
  subst he
  have t1 : decide ((n : Int) - (a : Int) < (K : Int)) = false := by simp; omega
  have e1 : IntKind.i64.wrap ((n : Int) - (a : Int)) = (n : Int) - (a : Int) := by rw [IntKind.wrap_i64]; omega
  have e2 : IntKind.i64.wrap ((K : Int) - 1) = (K : Int) - 1 := by rw [IntKind.wrap_i64]; omega
  obtain ⟨x, hx⟩ : ∃ x, x = (bs.drop a).take K := ⟨_, rfl⟩
  have hxl : x.length = K := by rw [hx, List.length_take, List.length_drop, hn]; omega
  have hxg : ∀ j (hj : j < K), bs[a + j]? = some (x[j]'(by omega)) := fun j hj => by
    have h1 : x[j]? = bs[a + j]? := by rw [hx, List.getElem?_take_of_lt hj, List.getElem?_drop]
    rw [← h1]
    exact List.getElem?_eq_getElem (by omega)
  obtain ⟨bb, off, e⟩ := hr.someA (by intro h; have := congrArg List.length h; rw [List.length_map, hn] at this; simp at this; omega)
  subst e
  have hcell : ∀ w' j (hj : j < K), Below w.heap.size w w' → w'.cell? ⟨bb, off + (a + j), none⟩ = some (bv (x[j]'(by omega))) := by
    intro w' j hj hE
    rcases hr.below hE with h | ⟨b', o', hA', hc⟩
    · have := congrArg List.length h; rw [List.length_map, hn] at this; simp at this; omega
    · cases hA'
      exact hc (a + j) _ (by rw [List.getElem?_map, hxg j hj]; rfl)
  rw [← hx]
  replace hx := Lib.hid hx
  replace hxg := Lib.hid hxg
  replace hcell := Lib.hid hcell
  replace hn := Lib.hid hn
  clear hr
  unfold rdc8 at hA
  go_enter Tryd.func33, Tryd.ntmps33
  go_upto_region 1 with fail
  refine wp_region_rel [] Ext (by kernel_rfl) (by kernel_rfl) (by kernel_rfl) Ext.refl Ext.trans (by intro p hp; cases hp) ?_
  refine relMove Ext.refl rfl rfl rfl rfl _ (.inl rfl) (by conv => lhs; whnf) (by simp only [List.set_cons_succ, List.set_cons_zero]; rfl) ?_
  refine relPure Ext.refl rfl rfl rfl rfl (fun w _ => by go_simp; first | done | rfl) (by simp only [List.set_cons_succ, List.set_cons_zero]; rfl) ?_
  refine relPure Ext.refl rfl rfl rfl rfl (fun w _ => by go_simp; first | done | rfl) (by simp only [List.set_cons_succ, List.set_cons_zero]; rfl) ?_
  refine relPure Ext.refl rfl rfl rfl rfl (c := .int .i64 0) (fun w hw => by have := (hA.below hw.drew).cell 2 _ rfl; go_simp; first | done | rfl) (by simp only [List.set_cons_succ, List.set_cons_zero]; rfl) ?_
  refine relPure Ext.refl rfl rfl rfl rfl (c := .bool false) (fun w hw => by go_simp; first | done | rfl) (by simp only [List.set_cons_succ, List.set_cons_zero]; rfl) ?_
  refine relMove Ext.refl rfl rfl rfl rfl _ (.inl rfl) (by conv => lhs; whnf) (by simp only [List.set_cons_succ, List.set_cons_zero]; rfl) ?_
  refine relMove Ext.refl rfl rfl rfl rfl _ (.inl rfl) (by conv => lhs; whnf) (by simp only [List.set_cons_succ, List.set_cons_zero]; rfl) ?_
  refine relPure Ext.refl rfl rfl rfl rfl (fun w _ => by go_simp; first | done | rfl) (by simp only [List.set_cons_succ, List.set_cons_zero]; rfl) ?_
  refine relPure Ext.refl rfl rfl rfl rfl (fun w _ => by go_simp; first | done | rfl) (by simp only [List.set_cons_succ, List.set_cons_zero]; rfl) ?_
  refine relPure Ext.refl rfl rfl rfl rfl (c := .slice (some ⟨bb, off, none⟩) n c) (fun w hw => by have := (hA.below hw.drew).cell 0 _ rfl; go_simp; first | done | rfl) (by simp only [List.set_cons_succ, List.set_cons_zero]; rfl) ?_
  refine relPure Ext.refl rfl rfl rfl rfl (fun w _ => by go_simp; first | done | rfl) (by simp only [List.set_cons_succ, List.set_cons_zero]; rfl) ?_
  refine relMove Ext.refl rfl rfl rfl rfl _ (.inl rfl) (by conv => lhs; whnf) (by simp only [List.set_cons_succ, List.set_cons_zero]; rfl) ?_
  refine relPure Ext.refl rfl rfl rfl rfl (fun w _ => by go_simp; first | done | rfl) (by simp only [List.set_cons_succ, List.set_cons_zero]; rfl) ?_
  refine relPure Ext.refl rfl rfl rfl rfl (fun w _ => by go_simp; first | done | rfl) (by simp only [List.set_cons_succ, List.set_cons_zero]; rfl) ?_
  refine relPure Ext.refl rfl rfl rfl rfl (c := .int .i64 (a : Int)) (fun w hw => by have := (hA.below hw.drew).cell 1 _ rfl; go_simp; first | done | rfl) (by simp only [List.set_cons_succ, List.set_cons_zero]; rfl) ?_
  refine relPure Ext.refl rfl rfl rfl rfl (c := .int .i64 ((n : Int) - (a : Int))) (fun w hw => by have := e1; go_simp; first | done | rfl) (by simp only [List.set_cons_succ, List.set_cons_zero]; rfl) ?_
  refine relMove Ext.refl rfl rfl rfl rfl _ (.inl rfl) (by conv => lhs; whnf) (by simp only [List.set_cons_succ, List.set_cons_zero]; rfl) ?_
  refine relPure Ext.refl rfl rfl rfl rfl (c := .bool false) (fun w hw => by go_simp; first | done | rfl) (by simp only [List.set_cons_succ, List.set_cons_zero]; rfl) ?_
  refine relPick Ext.refl rfl rfl rfl rfl _ _ _ rfl rfl (c := .bool false) rfl (by simp only [List.set_cons_succ, List.set_cons_zero]; rfl) ?_
  refine relEnd fun w2 hw2 => fill_end ?_
  have b2 : Below w.heap.size w w2 := hw2.drew
  go_wp2
  go_loopw [5, 6] (fun t i wr => ∃ k : Nat, k ≤ K ∧ i = .int .i64 ((k : Int) - 1) ∧ t = .int .u64 (Cm.le (x.drop k) : Int) ∧ Below w.heap.size w wr) (fun _ i _ => (intOf i + 1).toNat)
  case atStart => exact ⟨K, Nat.le_refl _, rfl, by rw [List.drop_of_length_le (by omega)]; rfl, b2⟩
  case round =>
    clear b2
    obtain ⟨k, hk, rfl, rfl, b2⟩ := hrel
    by_cases hk1 : 1 ≤ k
    · obtain ⟨j, rfl⟩ : ∃ j, k = j + 1 := ⟨k - 1, by omega⟩
      rw [show ((j + 1 : Nat) : Int) - 1 = (j : Int) by omega]
      have hjx : j < x.length := by omega
      have hst := le_drop x j hjx
      have hbd := le_drop_lt x (j + 1) (by omega) (by omega)
      have hck := fun w' h => hcell.out w' j (by omega) h
      have hbl := Cm.u8_lt x[j]
      obtain ⟨v0, hv0⟩ : ∃ v0 : Int, v0 = (x[j].toNat : Int) := ⟨_, rfl⟩
      have hck2 : ∀ w', Below w.heap.size w w' → w'.cell? ⟨bb, off + (a + j), none⟩ = some (.int .u8 v0) := fun w' h => by rw [hck w' h, hv0]
      obtain ⟨t', ht'⟩ : ∃ t' : Int, t' = (Cm.le (x.drop (j + 1)) : Int) := ⟨_, rfl⟩
      have q0 : 0 ≤ t' := by omega
      have q1 : t' ≤ 72057594037927935 := by omega
      have q2 : 0 ≤ v0 := by omega
      have q3 : v0 ≤ 255 := by omega
      have hs2 : ((Cm.le (x.drop j) : Nat) : Int) = t' * 256 + v0 := by rw [hst, ht', hv0]; omega
      rw [← ht']
      obtain ⟨m, hm9⟩ : ∃ m, m = a + j := ⟨_, rfl⟩
      have hmi : (a : Int) + (j : Int) = (m : Int) := by omega
      rw [← hm9] at hck2
      have w1 : IntKind.u64.wrap (t' * 256) = t' * 256 := by rw [IntKind.wrap_u64]; omega
      have w3 : IntKind.u64.wrap (t' * 256 + v0) = t' * 256 + v0 := by rw [IntKind.wrap_u64]; omega
      have w4 : IntKind.u64.wrap v0 = v0 := by rw [IntKind.wrap_u64]; omega
      have w5 : IntKind.i64.wrap (m : Int) = (m : Int) := by rw [IntKind.wrap_i64]; omega
      have tj : decide (0 ≤ (j : Int)) = true := by simp
      have n1 : (m : Int) < (n : Int) := by omega
      have n0 : (0 : Int) ≤ (m : Int) := by omega
      clear hst hbd hck hbl
      replace hv0 := Lib.hid hv0
      replace ht' := Lib.hid ht'
      replace hs2 := Lib.hid hs2
      replace hm9 := Lib.hid hm9
      replace hck2 := Lib.hid hck2
      go_wp2
      have H1 : ∀ w', Ext wr.drew w' → Below w.heap.size w w' := fun w' hE => b2.trans (hE.drew.mono b2.size)
      refine wp_region_rel [] Ext (by kernel_rfl) (by kernel_rfl) (by kernel_rfl) Ext.refl Ext.trans (by intro p hp; cases hp) ?_
      refine relMove Ext.refl rfl rfl rfl rfl _ (.inl rfl) (by conv => lhs; whnf) (by simp only [List.set_cons_succ, List.set_cons_zero]; rfl) ?_
      refine relPure Ext.refl rfl rfl rfl rfl (c := .int .u64 (t' * 256)) (fun w hw => by have := w1; go_simp; first | done | rfl) (by simp only [List.set_cons_succ, List.set_cons_zero]; rfl) ?_
      refine relMove Ext.refl rfl rfl rfl rfl _ (.inl rfl) (by conv => lhs; whnf) (by simp only [List.set_cons_succ, List.set_cons_zero]; rfl) ?_
      refine relPure Ext.refl rfl rfl rfl rfl (fun w _ => by go_simp; first | done | rfl) (by simp only [List.set_cons_succ, List.set_cons_zero]; rfl) ?_
      refine relPure Ext.refl rfl rfl rfl rfl (fun w _ => by go_simp; first | done | rfl) (by simp only [List.set_cons_succ, List.set_cons_zero]; rfl) ?_
      refine relPure Ext.refl rfl rfl rfl rfl (c := .slice (some ⟨bb, off, none⟩) n c) (fun w hw => by have := (hA.below (H1 w hw)).cell 0 _ rfl; go_simp; first | done | rfl) (by simp only [List.set_cons_succ, List.set_cons_zero]; rfl) ?_
      refine relMove Ext.refl rfl rfl rfl rfl _ (.inl rfl) (by conv => lhs; whnf) (by simp only [List.set_cons_succ, List.set_cons_zero]; rfl) ?_
      refine relPure Ext.refl rfl rfl rfl rfl (fun w _ => by go_simp; first | done | rfl) (by simp only [List.set_cons_succ, List.set_cons_zero]; rfl) ?_
      refine relPure Ext.refl rfl rfl rfl rfl (fun w _ => by go_simp; first | done | rfl) (by simp only [List.set_cons_succ, List.set_cons_zero]; rfl) ?_
      refine relPure Ext.refl rfl rfl rfl rfl (c := .int .i64 (a : Int)) (fun w hw => by have := (hA.below (H1 w hw)).cell 1 _ rfl; go_simp; first | done | rfl) (by simp only [List.set_cons_succ, List.set_cons_zero]; rfl) ?_
      refine relMove Ext.refl rfl rfl rfl rfl _ (.inl rfl) (by conv => lhs; whnf) (by simp only [List.set_cons_succ, List.set_cons_zero]; rfl) ?_
      refine relPure Ext.refl rfl rfl rfl rfl (c := .int .i64 (m : Int)) (fun w hw => by have := hmi; have := w5; go_simp; first | done | rfl) (by simp only [List.set_cons_succ, List.set_cons_zero]; rfl) ?_
      refine relPure Ext.refl rfl rfl rfl rfl (c := .pointer (some ⟨bb, off + m, none⟩)) (fun w hw => by have := n0; have := n1; go_simp; first | done | rfl) (by simp only [List.set_cons_succ, List.set_cons_zero]; rfl) ?_
      refine relPure Ext.refl rfl rfl rfl rfl (c := .int .u8 v0) (fun w hw => by have := hck2.out w (H1 w hw); go_simp; first | done | rfl) (by simp only [List.set_cons_succ, List.set_cons_zero]; rfl) ?_
      refine relPure Ext.refl rfl rfl rfl rfl (c := .int .u64 v0) (fun w hw => by have := w4; go_simp; first | done | rfl) (by simp only [List.set_cons_succ, List.set_cons_zero]; rfl) ?_
      refine relPure Ext.refl rfl rfl rfl rfl (c := .int .u64 (t' * 256 + v0)) (fun w hw => by have := w3; go_simp; first | done | rfl) (by simp only [List.set_cons_succ, List.set_cons_zero]; rfl) ?_
      refine relMove Ext.refl rfl rfl rfl rfl _ (.inr rfl) (by conv => lhs; whnf) (by simp only [List.set_cons_succ, List.set_cons_zero]; rfl) ?_
      refine relEnd fun w6 hw6 => fill_end ?_
      have b6 := H1 w6 hw6
      go_wp2
      go_roundw
      case rel => exact ⟨j, by omega, by go_num, by rw [hs2.out], b6⟩
      case measure => simp [intOf]
    · obtain rfl : k = 0 := by omega
      have tj : decide ((0 : Int) ≤ ((0 : Nat) : Int) - 1) = false := by decide
      have hA2 := hA.below b2
      have c1 := hA2.cell 1 _ rfl
      have f1 := frozen_of_row _ _ 1 _ _ hA2
      have e3 : IntKind.i64.wrap ((a : Int) + (K : Int)) = (a : Int) + (K : Int) := by rw [IntKind.wrap_i64]; omega
      have hA3 := hA2.set 1 (.int .i64 ((a : Int) + (K : Int)))
      have f3 := (Below.fr (S := fun k => k = R) b2).trans (Fr.setCell wr ⟨R, 1, none⟩ (.int .i64 ((a : Int) + (K : Int))))
      replace hA3 := Lib.hid hA3
      replace f3 := Lib.hid f3
      rw [show ((0 : Nat) : Int) - 1 = -1 from rfl, List.drop_zero]
      clear tj hA
      go_wp2
      go_ret
      exact ⟨rfl, hA3.out, f3.out⟩
theorem RNum (bs : List UInt8) (A : Option Addr) (n c : Nat) (hn : bs.length = n) (hm : n ≤ 1000000000000) (a e K : Nat) (hK : K ≤ 8) (hK0 : 0 < K) (ha : a ≤ n) (R : Nat) (w : World) (hA : Av w R 79 (rdc8 A n c a e)) (hr : Rd w A (bs.map bv)) :
    Calls Tryd.prog 33 #[.pointer (some ⟨R, 0, none⟩), .int .i64 (K : Int)] w fun r w' => r = .returned (.int .u64 (Cm.le (sTake bs a e K).1 : Int)) ∧ RdTo R (rdc8 A n c (sTake bs a e K).2.1 (sTake bs a e K).2.2) w w' := by
  by_cases he : e = 0
  · by_cases hs : n - a < K
    · rw [show sTake bs a e K = ([], a, 1) by rw [sTake, if_neg (by simp [he]), if_pos (by rw [hn]; exact hs)]]
      exact RNum_s bs A n c hn hm a e K hK ha R w hA hr he hs
    · rw [show sTake bs a e K = ((bs.drop a).take K, a + K, 0) by rw [sTake, if_neg (by simp [he]), if_neg (by rw [hn]; exact hs)]]
      exact RNum_k bs A n c hn hm a e K hK ha R w hA hr he hs hK0
  · rw [show sTake bs a e K = ([], a, e) by rw [sTake, if_pos he]]
    exact RNum_e bs A n c hn hm a e K hK ha R w hA hr he
set_option maxRecDepth 10000 in
set_option maxHeartbeats 1000000 in
theorem RCount (bs : List UInt8) (A : Option Addr) (n c : Nat) (hn : bs.length = n) (hnc : n ≤ c) (hm : n ≤ 1000000000000) (a e most : Nat) (ha : a ≤ n) (gs : Nat) (w0 w : World) (hr : Rd w0 A (bs.map bv)) (hB : Below w0.heap.size w0 w)
    (hA : Av w gs 79 (rdc8 A n c a e)) :
    Calls Tryd.prog 34 #[.pointer (some ⟨gs, 0, none⟩), .int .u64 (most : Int)] w fun r w' => r = .returned (.int .i64 ((sCount bs a e most).1 : Int)) ∧ RdTo gs (rdc8 A n c (sCount bs a e most).2.1 (sCount bs a e most).2.2) w w' := by
  unfold rdc8 at hA
  have hc2 := hA.cell 2 _ rfl
  by_cases he : e = 0
  · subst he
    obtain ⟨N, K, E, hX⟩ : ∃ N K E, Cm.bounded (bs.drop a) most = (N, K, E) := ⟨_, _, _, rfl⟩
    rw [show sCount bs a 0 most = (N, a + K, E) by rw [sCount, if_neg (by simp), hX]]
    have hK : K ≤ 9 := by
      have := bounded_snd (bs.drop a) most
      rw [hX] at this; exact this
    have HB := Lib.hid (fun w (h : Below w0.heap.size w0 w) => ref04_Bounded (bs.drop a) (most : Int) (by omega) N K E (by rw [Int.toNat_natCast]; exact hX) (subA A c a 1) (n - a) (c - a) w (by
      have := (hr.below h).sub c a 1 (by rw [List.length_map, hn]; omega)
      rw [Nat.mul_one] at this
      rw [List.map_drop]
      exact this) (by rw [List.length_drop, hn]) (by omega))
    have m0 : 0 ≤ (a : Int) := by omega
    have m1 : (a : Int) ≤ (n : Int) := by omega
    have hbel := fun w' (h : Ext w.drew w') => hB.trans (h.drew.mono hB.size)
    replace hbel := Lib.hid hbel
    replace hX := Lib.hid hX
    clear hn
    go_enter Tryd.func34, Tryd.ntmps34
    go_wp2
    refine wp_region_rel [] Ext (by kernel_rfl) (by kernel_rfl) (by kernel_rfl) Ext.refl Ext.trans (by intro p hp; cases hp) ?_
    refine relMove Ext.refl rfl rfl rfl rfl _ (.inl rfl) (by conv => lhs; whnf) (by simp only [List.set_cons_succ, List.set_cons_zero]; rfl) ?_
    refine relPure Ext.refl rfl rfl rfl rfl (fun w _ => by go_simp; first | done | rfl) (by simp only [List.set_cons_succ, List.set_cons_zero]; rfl) ?_
    refine relPure Ext.refl rfl rfl rfl rfl (fun w _ => by go_simp; first | done | rfl) (by simp only [List.set_cons_succ, List.set_cons_zero]; rfl) ?_
    refine relPure Ext.refl rfl rfl rfl rfl (c := .slice A n c) (fun w hw => by have := (hA.below hw.drew).cell 0 _ rfl; go_simp; first | done | rfl) (by simp only [List.set_cons_succ, List.set_cons_zero]; rfl) ?_
    refine relMove Ext.refl rfl rfl rfl rfl _ (.inl rfl) (by conv => lhs; whnf) (by simp only [List.set_cons_succ, List.set_cons_zero]; rfl) ?_
    refine relPure Ext.refl rfl rfl rfl rfl (fun w _ => by go_simp; first | done | rfl) (by simp only [List.set_cons_succ, List.set_cons_zero]; rfl) ?_
    refine relPure Ext.refl rfl rfl rfl rfl (fun w _ => by go_simp; first | done | rfl) (by simp only [List.set_cons_succ, List.set_cons_zero]; rfl) ?_
    refine relPure Ext.refl rfl rfl rfl rfl (c := .int .i64 (a : Int)) (fun w hw => by have := (hA.below hw.drew).cell 1 _ rfl; go_simp; first | done | rfl) (by simp only [List.set_cons_succ, List.set_cons_zero]; rfl) ?_
    refine relPure Ext.refl rfl rfl rfl rfl (fun w _ => by go_simp; first | done | rfl) (by simp only [List.set_cons_succ, List.set_cons_zero]; rfl) ?_
    refine relMove Ext.refl rfl rfl rfl rfl _ (.inl rfl) (by conv => lhs; whnf) (by simp only [List.set_cons_succ, List.set_cons_zero]; rfl) ?_
    refine relCall1 rfl rfl rfl rfl (c := .tuple #[.int .i64 (N : Int), .int .i64 (K : Int), .int .i64 (E : Int)]) 47 #[.slice (subA A c a 1) (n - a) (c - a), .int .u64 (most : Int)] (fun w => by go_simp) (fun w hw => (HB.out w (hbel.out w hw)).mono ?_) (by simp only [List.set_cons_succ, List.set_cons_zero]; rfl) ?_
    · rintro e w' ⟨rfl, rfl⟩
      exact ⟨rfl, Ext.refl _⟩
    refine relMove Ext.refl rfl rfl rfl rfl _ (.inl rfl) (by conv => lhs; whnf) (by simp only [List.set_cons_succ, List.set_cons_zero]; rfl) ?_
    refine relPure Ext.refl rfl rfl rfl rfl (fun w _ => by go_simp; first | done | rfl) (by simp only [List.set_cons_succ, List.set_cons_zero]; rfl) ?_
    refine relPure Ext.refl rfl rfl rfl rfl (fun w _ => by go_simp; first | done | rfl) (by simp only [List.set_cons_succ, List.set_cons_zero]; rfl) ?_
    refine relPure Ext.refl rfl rfl rfl rfl (fun w _ => by go_simp; first | done | rfl) (by simp only [List.set_cons_succ, List.set_cons_zero]; rfl) ?_
    refine relMove Ext.refl rfl rfl rfl rfl _ (.inr rfl) (by conv => lhs; whnf) (by simp only [List.set_cons_succ, List.set_cons_zero]; rfl) ?_
    refine relMove Ext.refl rfl rfl rfl rfl _ (.inr rfl) (by conv => lhs; whnf) (by simp only [List.set_cons_succ, List.set_cons_zero]; rfl) ?_
    refine relMove Ext.refl rfl rfl rfl rfl _ (.inr rfl) (by conv => lhs; whnf) (by simp only [List.set_cons_succ, List.set_cons_zero]; rfl) ?_
    refine relEnd fun w2 hw2 => fill_end ?_
    have hA2 := hA.below hw2.drew
    have hF := Below.fr (S := fun k => k = gs) hw2.drew
    by_cases hE : E = 0
    · subst hE
      have hc1 := hA2.cell 1 _ rfl
      have hf1 := frozen_of_row _ _ 1 _ _ hA2
      have e3 : IntKind.i64.wrap ((a : Int) + (K : Int)) = (a : Int) + (K : Int) := by rw [IntKind.wrap_i64]; omega
      have hA3 := hA2.set 1 (.int .i64 ((a : Int) + (K : Int)))
      replace hA3 := Lib.hid hA3
      clear hc2 hA hA2
      go_wp2
      go_ret
      exact ⟨rfl, hA3.out, hF.trans (Fr.setCell w2 ⟨gs, 1, none⟩ _)⟩
    · have hNK := bounded_err hX.out hE
      obtain ⟨rfl, rfl⟩ := hNK
      have t4 : ((E : Int) != 0) = true := by simp; omega
      have HF := RFail A n c a 0 E gs w2 hA2
      rw [if_pos rfl] at HF
      replace HF := Lib.hid HF
      replace hE := Lib.hid hE
      clear hc2 hA hA2
      go_wp2_with (go_at_call 35; refine (HF.out).mono ?_; rintro r w3 ⟨rfl, a3, f3⟩)
      go_ret
      exact ⟨rfl, a3, hF.trans f3⟩
  · rw [show sCount bs a e most = (0, a, e) by rw [sCount, if_pos he]]
    have t2 : ((e : Int) != 0) = true := by simp; omega
    clear hn
    go_enter Tryd.func34, Tryd.ntmps34
    go_wp2
    go_ret
    exact ⟨rfl, hA, Fr.refl _ _⟩

set_option maxRecDepth 10000 in
set_option maxHeartbeats 1000000 in
theorem RScript (bs : List UInt8) (A : Option Addr) (n c : Nat) (hn : bs.length = n) (hnc : n ≤ c) (hm : n ≤ 1000000000000) (a e : Nat) (ha : a ≤ n) (gs : Nat) (w0 w : World) (hr : Rd w0 A (bs.map bv)) (hB : Below w0.heap.size w0 w)
    (hA : Av w gs 79 (rdc8 A n c a e)) :
    Calls Tryd.prog 37 #[.pointer (some ⟨gs, 0, none⟩)] w fun r w' => (∃ v, r = .returned v ∧ SlF w.heap.size (sScript bs a e).1 v w') ∧ RdTo gs (rdc8 A n c (sScript bs a e).2.1 (sScript bs a e).2.2) w w' := by
  unfold rdc8 at hA
  have hc2 := hA.cell 2 _ rfl
  by_cases he : e = 0
  · subst he
    obtain ⟨O, K, E, hX⟩ : ∃ O K E, Cm.bytes (bs.drop a) 10000 = (O, K, E) := ⟨_, _, _, rfl⟩
    rw [show sScript bs a 0 = (O, a + K, E) by rw [sScript, if_neg (by simp), hX]]
    have hK : K ≤ 20000 := by
      have := bytes_snd (bs.drop a)
      rw [hX] at this; exact this
    have HB := Lib.hid (fun w (h : Below w0.heap.size w0 w) => ref04_Bytes (bs.drop a) 10000 (by omega) (by omega) O K E hX (subA A c a 1) (n - a) (c - a) w (by
      have := (hr.below h).sub c a 1 (by rw [List.length_map, hn]; omega)
      rw [Nat.mul_one] at this
      rw [List.map_drop]
      exact this) (by rw [List.length_drop, hn]) (by omega) (by omega))
    have m0 : 0 ≤ (a : Int) := by omega
    have m1 : (a : Int) ≤ (n : Int) := by omega
    have hbel := fun w' (h : Ext w.drew w') => hB.trans (h.drew.mono hB.size)
    replace hbel := Lib.hid hbel
    obtain ⟨phi, hphi⟩ : ∃ phi : VP, phi = fun u w' => ∃ v, u = .tuple #[v, .int .i64 (K : Int), .int .i64 (E : Int)] ∧ SlF w.heap.size O v w' := ⟨_, rfl⟩
    have hmono : ∀ v a b, Ext a b → phi v a → phi v b := by
      intro v a b hE h
      rw [hphi] at h ⊢
      obtain ⟨u, h1, h2⟩ := h
      exact ⟨u, h1, h2.mono hE⟩
    replace hX := Lib.hid hX
    clear hn
    replace hphi := Lib.hid hphi
    go_enter Tryd.func37, Tryd.ntmps37
    go_wp2
    refine wp_region_rel [(9, phi), (10, phi), (11, SlF w.heap.size O), (14, SlF w.heap.size O)] Ext (by kernel_rfl) (by kernel_rfl) (by kernel_rfl) Ext.refl Ext.trans (by
      intro p hp v w w' hR
      simp only [List.mem_cons, List.not_mem_nil, or_false] at hp
      rcases hp with rfl | rfl | rfl | rfl
      · exact hmono _ _ _ hR
      · exact hmono _ _ _ hR
      · exact SlF.mono hR
      · exact SlF.mono hR) ?_
    refine relMove Ext.refl rfl rfl rfl rfl _ (.inl rfl) (by conv => lhs; whnf) (by simp only [List.set_cons_succ, List.set_cons_zero]; rfl) ?_
    refine relPure Ext.refl rfl rfl rfl rfl (fun w _ => by go_simp; first | done | rfl) (by simp only [List.set_cons_succ, List.set_cons_zero]; rfl) ?_
    refine relPure Ext.refl rfl rfl rfl rfl (fun w _ => by go_simp; first | done | rfl) (by simp only [List.set_cons_succ, List.set_cons_zero]; rfl) ?_
    refine relPure Ext.refl rfl rfl rfl rfl (c := .slice A n c) (fun w hw => by have := (hA.below hw.drew).cell 0 _ rfl; go_simp; first | done | rfl) (by simp only [List.set_cons_succ, List.set_cons_zero]; rfl) ?_
    refine relMove Ext.refl rfl rfl rfl rfl _ (.inl rfl) (by conv => lhs; whnf) (by simp only [List.set_cons_succ, List.set_cons_zero]; rfl) ?_
    refine relPure Ext.refl rfl rfl rfl rfl (fun w _ => by go_simp; first | done | rfl) (by simp only [List.set_cons_succ, List.set_cons_zero]; rfl) ?_
    refine relPure Ext.refl rfl rfl rfl rfl (fun w _ => by go_simp; first | done | rfl) (by simp only [List.set_cons_succ, List.set_cons_zero]; rfl) ?_
    refine relPure Ext.refl rfl rfl rfl rfl (c := .int .i64 (a : Int)) (fun w hw => by have := (hA.below hw.drew).cell 1 _ rfl; go_simp; first | done | rfl) (by simp only [List.set_cons_succ, List.set_cons_zero]; rfl) ?_
    refine relPure Ext.refl rfl rfl rfl rfl (fun w _ => by go_simp; first | done | rfl) (by simp only [List.set_cons_succ, List.set_cons_zero]; rfl) ?_
    refine relCall _ rfl rfl rfl 48 #[.slice (subA A c a 1) (n - a) (c - a), .int .i64 10000] (fun w => by go_simp) (fun w hw => (HB.out w (hbel.out w hw)).mono ?_) ?_
    · rintro r w' ⟨v, rfl, ho, hb⟩
      exact ⟨_, rfl, hb, by rw [hphi.out]; exact ⟨v, rfl, SlF.own ho _ (by have := hw.size; simpa using this)⟩⟩
    refine relWord _ rfl (fun w hw => fill_take rfl rfl fun u hu => fill_none rfl (relOp_yes rfl ?_)) ?_
    · go_simp
      exact ⟨Ext.refl _, hu⟩
    refine relWord _ rfl (fun w hw => fill_skip rfl (fill_take rfl rfl fun u hu => fill_none rfl (relOp_yes rfl ?_))) ?_
    · rw [hphi.out] at hu
      obtain ⟨v, rfl, h⟩ := hu
      go_simp
      exact ⟨Ext.refl _, h⟩
    refine relOn rfl rfl (c := .int .i64 (K : Int)) (fun w hw => fill_skip rfl (fill_take rfl rfl fun u hu => fill_none rfl (relOp_yes rfl ?_))) (by simp only [List.set_cons_succ, List.set_cons_zero]; rfl) ?_
    · rw [hphi.out] at hu
      obtain ⟨v, rfl, h⟩ := hu
      go_simp
      exact ⟨Ext.refl _, rfl⟩
    refine relOn rfl rfl (c := .int .i64 (E : Int)) (fun w hw => fill_skip rfl (fill_take rfl rfl fun u hu => fill_none rfl (relOp_yes rfl ?_))) (by simp only [List.set_cons_succ, List.set_cons_zero]; rfl) ?_
    · rw [hphi.out] at hu
      obtain ⟨v, rfl, h⟩ := hu
      go_simp
      exact ⟨Ext.refl _, rfl⟩
    refine relWord _ rfl (fun w hw => fill_skip rfl (fill_skip rfl (fill_take rfl rfl fun u hu => fill_none rfl (relOp_yes rfl ?_)))) ?_
    · go_simp
      exact ⟨Ext.refl _, hu⟩
    refine relMove Ext.refl rfl rfl rfl rfl _ (.inr rfl) (by conv => lhs; whnf) (by simp only [List.set_cons_succ, List.set_cons_zero]; rfl) ?_
    refine relMove Ext.refl rfl rfl rfl rfl _ (.inr rfl) (by conv => lhs; whnf) (by simp only [List.set_cons_succ, List.set_cons_zero]; rfl) ?_
    refine relEnd fun w2 hw2 => fill_take rfl rfl fun u1 h1 => fill_take rfl rfl fun u2 h2 => fill_take rfl rfl fun u3 h3 => fill_take rfl rfl fun v h4 => fill_end ?_
    simp only [List.set_cons_succ, List.set_cons_zero]
    have hA2 := hA.below hw2.drew
    have hF := Below.fr (S := fun k => k = gs) hw2.drew
    have hgl := hA.lt
    clear h1 h2 h3
    obtain ⟨Av', cv', rfl, hcv, hrv, hav⟩ := h4
    by_cases hE : E = 0
    · subst hE
      have hc1 := hA2.cell 1 _ rfl
      have hf1 := frozen_of_row _ _ 1 _ _ hA2
      have e3 : IntKind.i64.wrap ((a : Int) + (K : Int)) = (a : Int) + (K : Int) := by rw [IntKind.wrap_i64]; omega
      have hA3 := hA2.set 1 (.int .i64 ((a : Int) + (K : Int)))
      replace hA3 := Lib.hid hA3
      clear hc2 hA hA2
      go_wp2
      go_ret
      have hG := Fr.setCell w2 ⟨gs, 1, none⟩ (.int .i64 ((a : Int) + (K : Int)))
      exact ⟨⟨_, rfl, Av', cv', rfl, hcv, hG.rd hrv fun a ha => (by have := hav a ha; simp only; omega), hav⟩, hA3.out, hF.trans hG⟩
    · have hNK := bytes_err hX.out hE
      obtain ⟨rfl, rfl⟩ := hNK
      have t4 : ((E : Int) != 0) = true := by simp; omega
      have HF := RFail A n c a 0 E gs w2 hA2
      rw [if_pos rfl] at HF
      replace HF := Lib.hid HF
      replace hE := Lib.hid hE
      clear hc2 hA hA2
      go_wp2_with (go_at_call 35; refine (HF.out).mono ?_; rintro r w3 ⟨rfl, a3, f3⟩)
      go_ret
      exact ⟨⟨_, rfl, none, 0, rfl, Nat.le_refl _, Rd.nil _ _, fun a ha => by cases ha⟩, a3, hF.trans f3⟩
  · rw [show sScript bs a e = ([], a, e) by rw [sScript, if_pos he]]
    have t2 : ((e : Int) != 0) = true := by simp; omega
    clear hn
    go_enter Tryd.func37, Tryd.ntmps37
    go_wp2
    go_ret
    exact ⟨⟨_, rfl, none, 0, rfl, Nat.le_refl _, Rd.nil _ _, fun a ha => by cases ha⟩, hA, Fr.refl _ _⟩
set_option maxRecDepth 100000 in
set_option maxHeartbeats 4000000 in
theorem RHash_e (bs : List UInt8) (A : Option Addr) (n c : Nat) (hn : bs.length = n) (hm : n ≤ 1000000000000) (a e : Nat) (ha : a ≤ n) (R : Nat) (w : World) (hA : Av w R 79 (rdc8 A n c a e)) (hr : Rd w A (bs.map bv)) (he : e ≠ 0) :
    Calls Tryd.prog 36 #[.pointer (some ⟨R, 0, none⟩)] w fun r w' => r = .returned (.agg (hcs (List.replicate 32 0))) ∧ RdTo R (rdc8 A n c a e) w w' := by
  have _u := And.intro hn (And.intro hm ha)
  clear _u
  have hz := zeros_32
  obtain ⟨Z, hZ⟩ : ∃ Z, Z = List.replicate 32 (0 : UInt8) := ⟨_, rfl⟩
  have Zv : (Z.map bv).length = 32 := by rw [hZ]; rfl
  have Zone : (Z.map bv).all (·.oneCell') = true := by rw [hZ]; rfl
  rw [← hZ] at hz
  obtain ⟨G, hG⟩ : ∃ G, G = w.heap.size := ⟨_, rfl⟩
  obtain ⟨W, hW⟩ : ∃ W, W = (w.alloc (.cells (Z.map bv).toArray 39)).alloc (.cells (Z.map bv).toArray 39) := ⟨_, rfl⟩
  have bW : Below w.heap.size w W := by rw [hW]; exact ((Below.refl _ _).alloc (Nat.le_refl _) _).alloc (by simp) _
  have aG : Av W G 39 (Z.map bv) := by rw [hW, hG]; exact Av.newer8 w (Z.map bv) _ _
  have aX : Av W (G + 1) 39 (Z.map bv) := by rw [hW, hG, ← World.size_alloc w (.cells (Z.map bv).toArray 39)]; exact heap_alloc_new _ _
  have hRl := hA.lt
  have hRG : R ≠ G := by omega
  have hRX : R ≠ G + 1 := by omega
  have hGw : w.heap.size ≤ G := by omega
  have hGX : G ≠ G + 1 := by omega
  replace hA := hA.below bW
  have hr0 := hr
  replace hr := hr.below bW
  replace hZ := Lib.hid hZ
  replace Zv := Lib.hid Zv
  replace Zone := Lib.hid Zone
  replace hW := Lib.hid hW
  replace hG := Lib.hid hG
  have HF := fun w h => RFail A n c a e 1 R w h
  rw [if_neg he] at HF
  have t2 : ((e : Int) != 0) = true := by simp; omega
  clear hr hr0 hn
  replace he := Lib.hid he
  replace HF := Lib.hid HF
  unfold rdc8 at hA
  go_enter Tryd.func36, Tryd.ntmps36
  go_upto_region 2 with fail
  rw [← hG.out]
  rw [show G + 1 = G + 1 from rfl, ← hW.out]
  refine wp_region_rel [] Ext (by kernel_rfl) (by kernel_rfl) (by kernel_rfl) Ext.refl Ext.trans (by intro p hp; cases hp) ?_
  refine relMove Ext.refl rfl rfl rfl rfl _ (.inl rfl) (by conv => lhs; whnf) (by simp only [List.set_cons_succ, List.set_cons_zero]; rfl) ?_
  refine relPure Ext.refl rfl rfl rfl rfl (fun w _ => by go_simp; first | done | rfl) (by simp only [List.set_cons_succ, List.set_cons_zero]; rfl) ?_
  refine relPure Ext.refl rfl rfl rfl rfl (fun w _ => by go_simp; first | done | rfl) (by simp only [List.set_cons_succ, List.set_cons_zero]; rfl) ?_
  refine relPure Ext.refl rfl rfl rfl rfl (c := .int .i64 (e : Int)) (fun w hw => by have := (hA.below hw.drew).cell 2 _ rfl; go_simp; first | done | rfl) (by simp only [List.set_cons_succ, List.set_cons_zero]; rfl) ?_
  refine relPure Ext.refl rfl rfl rfl rfl (c := .bool true) (fun w hw => by go_simp; first | done | rfl) (by simp only [List.set_cons_succ, List.set_cons_zero]; rfl) ?_
  refine relMove Ext.refl rfl rfl rfl rfl _ (.inl rfl) (by conv => lhs; whnf) (by simp only [List.set_cons_succ, List.set_cons_zero]; rfl) ?_
  refine relSkip rfl rfl rfl rfl (by simp only [List.set_cons_succ, List.set_cons_zero]; rfl) ?_
  refine relSkip rfl rfl rfl rfl (by simp only [List.set_cons_succ, List.set_cons_zero]; rfl) ?_
  refine relSkip rfl rfl rfl rfl (by simp only [List.set_cons_succ, List.set_cons_zero]; rfl) ?_
  refine relSkip rfl rfl rfl rfl (by simp only [List.set_cons_succ, List.set_cons_zero]; rfl) ?_
  refine relSkip rfl rfl rfl rfl (by simp only [List.set_cons_succ, List.set_cons_zero]; rfl) ?_
  refine relSkip rfl rfl rfl rfl (by simp only [List.set_cons_succ, List.set_cons_zero]; rfl) ?_
  refine relSkip rfl rfl rfl rfl (by simp only [List.set_cons_succ, List.set_cons_zero]; rfl) ?_
  refine relSkip rfl rfl rfl rfl (by simp only [List.set_cons_succ, List.set_cons_zero]; rfl) ?_
  refine relSkip rfl rfl rfl rfl (by simp only [List.set_cons_succ, List.set_cons_zero]; rfl) ?_
  refine relSkip rfl rfl rfl rfl (by simp only [List.set_cons_succ, List.set_cons_zero]; rfl) ?_
  refine relSkip rfl rfl rfl rfl (by simp only [List.set_cons_succ, List.set_cons_zero]; rfl) ?_
  refine relPick Ext.refl rfl rfl rfl rfl _ _ _ rfl rfl (c := .bool true) rfl (by simp only [List.set_cons_succ, List.set_cons_zero]; rfl) ?_
  refine relEnd fun w2 hw2 => fill_end ?_
  have b2 : Below W.heap.size W w2 := hw2.drew
  have hA2 := hA.below b2
  have HF2 := Lib.hid (HF.out w2 hA2)
  have aG2 := aG.below b2
  have aX2 := aX.below b2
  have bw2 := bW.trans (b2.mono bW.size)
  clear hA HF aG aX b2
  go_upto_region 4 with (go_at_call 35; refine (HF2.out).mono ?_; rintro r w3 ⟨rfl, a3, f3⟩)
  have aG3 := f3.av aG2 (Ne.symm hRG)
  have aX3 := f3.av aX2 (Ne.symm hRX)
  have ff := (Below.fr (S := fun k => k = R) bw2).trans f3
  clear aG2 aX2 f3 bw2 HF2
  go_wp2_with (first
    | ((with_reducible refine wpList_loadF 39 aX3 ?_ _ 32 Zv.out Tryd.underlying39 ?_ ?_ ?_); rfl; rfl; kernel_rfl)
    | ((with_reducible refine wpList_storeFA 39 (Below.refl w.heap.size w3) aG3 hGw (Z.map bv) ?_ ?_ 32 Zv.out ?_ ?_ ?_ ?_); rfl; rfl; kernel_rfl; exact Zv.out; exact Zone.out; intro w4 a4 b4 k4 z4))
  have f4 := Fr.ofStore8 b4 k4 z4
  refine bodyPost_ret (results_cell_row rfl _ _ G _ _ (0, 0) _ (by rfl) a4 Tryd.underlying39 rfl (by rw [List.size_toArray, Zv.out]; kernel_rfl)) rfl ?_
  exact ⟨by rw [hZ.out], f4.av a3 hRG, Fr.transNew ff f4 (fun j h => .inr (by rw [h]; exact hGw))⟩
set_option maxRecDepth 100000 in
set_option maxHeartbeats 4000000 in
theorem RHash_s (bs : List UInt8) (A : Option Addr) (n c : Nat) (hn : bs.length = n) (hm : n ≤ 1000000000000) (a e : Nat) (ha : a ≤ n) (R : Nat) (w : World) (hA : Av w R 79 (rdc8 A n c a e)) (hr : Rd w A (bs.map bv)) (he : e = 0) (hs : n - a < 32) :
    Calls Tryd.prog 36 #[.pointer (some ⟨R, 0, none⟩)] w fun r w' => r = .returned (.agg (hcs (List.replicate 32 0))) ∧ RdTo R (rdc8 A n c a 1) w w' := by
  have _u := And.intro hn (And.intro hm ha)
  clear _u
  have hz := zeros_32
  obtain ⟨Z, hZ⟩ : ∃ Z, Z = List.replicate 32 (0 : UInt8) := ⟨_, rfl⟩
  have Zv : (Z.map bv).length = 32 := by rw [hZ]; rfl
  have Zone : (Z.map bv).all (·.oneCell') = true := by rw [hZ]; rfl
  rw [← hZ] at hz
  obtain ⟨G, hG⟩ : ∃ G, G = w.heap.size := ⟨_, rfl⟩
  obtain ⟨W, hW⟩ : ∃ W, W = (w.alloc (.cells (Z.map bv).toArray 39)).alloc (.cells (Z.map bv).toArray 39) := ⟨_, rfl⟩
  have bW : Below w.heap.size w W := by rw [hW]; exact ((Below.refl _ _).alloc (Nat.le_refl _) _).alloc (by simp) _
  have aG : Av W G 39 (Z.map bv) := by rw [hW, hG]; exact Av.newer8 w (Z.map bv) _ _
  have aX : Av W (G + 1) 39 (Z.map bv) := by rw [hW, hG, ← World.size_alloc w (.cells (Z.map bv).toArray 39)]; exact heap_alloc_new _ _
  have hRl := hA.lt
  have hRG : R ≠ G := by omega
  have hRX : R ≠ G + 1 := by omega
  have hGw : w.heap.size ≤ G := by omega
  have hGX : G ≠ G + 1 := by omega
  replace hA := hA.below bW
  have hr0 := hr
  replace hr := hr.below bW
  replace hZ := Lib.hid hZ
  replace Zv := Lib.hid Zv
  replace Zone := Lib.hid Zone
  replace hW := Lib.hid hW
  replace hG := Lib.hid hG
  subst he
  have HF := fun w h => RFail A n c a 0 1 R w h
  rw [if_pos rfl] at HF
  have t1 : decide ((n : Int) - (a : Int) < 32) = true := by simp; omega
  have e1 : IntKind.i64.wrap ((n : Int) - (a : Int)) = (n : Int) - (a : Int) := by rw [IntKind.wrap_i64]; omega
  clear hr hn hs
  replace HF := Lib.hid HF
  unfold rdc8 at hA
  go_enter Tryd.func36, Tryd.ntmps36
  go_upto_region 2 with fail
  rw [← hG.out]
  rw [show G + 1 = G + 1 from rfl, ← hW.out]
  refine wp_region_rel [] Ext (by kernel_rfl) (by kernel_rfl) (by kernel_rfl) Ext.refl Ext.trans (by intro p hp; cases hp) ?_
  refine relMove Ext.refl rfl rfl rfl rfl _ (.inl rfl) (by conv => lhs; whnf) (by simp only [List.set_cons_succ, List.set_cons_zero]; rfl) ?_
  refine relPure Ext.refl rfl rfl rfl rfl (fun w _ => by go_simp; first | done | rfl) (by simp only [List.set_cons_succ, List.set_cons_zero]; rfl) ?_
  refine relPure Ext.refl rfl rfl rfl rfl (fun w _ => by go_simp; first | done | rfl) (by simp only [List.set_cons_succ, List.set_cons_zero]; rfl) ?_
  refine relPure Ext.refl rfl rfl rfl rfl (c := .int .i64 0) (fun w hw => by have := (hA.below hw.drew).cell 2 _ rfl; go_simp; first | done | rfl) (by simp only [List.set_cons_succ, List.set_cons_zero]; rfl) ?_
  refine relPure Ext.refl rfl rfl rfl rfl (c := .bool false) (fun w hw => by go_simp; first | done | rfl) (by simp only [List.set_cons_succ, List.set_cons_zero]; rfl) ?_
  refine relMove Ext.refl rfl rfl rfl rfl _ (.inl rfl) (by conv => lhs; whnf) (by simp only [List.set_cons_succ, List.set_cons_zero]; rfl) ?_
  refine relMove Ext.refl rfl rfl rfl rfl _ (.inl rfl) (by conv => lhs; whnf) (by simp only [List.set_cons_succ, List.set_cons_zero]; rfl) ?_
  refine relPure Ext.refl rfl rfl rfl rfl (fun w _ => by go_simp; first | done | rfl) (by simp only [List.set_cons_succ, List.set_cons_zero]; rfl) ?_
  refine relPure Ext.refl rfl rfl rfl rfl (fun w _ => by go_simp; first | done | rfl) (by simp only [List.set_cons_succ, List.set_cons_zero]; rfl) ?_
  refine relPure Ext.refl rfl rfl rfl rfl (c := .slice A n c) (fun w hw => by have := (hA.below hw.drew).cell 0 _ rfl; go_simp; first | done | rfl) (by simp only [List.set_cons_succ, List.set_cons_zero]; rfl) ?_
  refine relPure Ext.refl rfl rfl rfl rfl (fun w _ => by go_simp; first | done | rfl) (by simp only [List.set_cons_succ, List.set_cons_zero]; rfl) ?_
  refine relMove Ext.refl rfl rfl rfl rfl _ (.inl rfl) (by conv => lhs; whnf) (by simp only [List.set_cons_succ, List.set_cons_zero]; rfl) ?_
  refine relPure Ext.refl rfl rfl rfl rfl (fun w _ => by go_simp; first | done | rfl) (by simp only [List.set_cons_succ, List.set_cons_zero]; rfl) ?_
  refine relPure Ext.refl rfl rfl rfl rfl (fun w _ => by go_simp; first | done | rfl) (by simp only [List.set_cons_succ, List.set_cons_zero]; rfl) ?_
  refine relPure Ext.refl rfl rfl rfl rfl (c := .int .i64 (a : Int)) (fun w hw => by have := (hA.below hw.drew).cell 1 _ rfl; go_simp; first | done | rfl) (by simp only [List.set_cons_succ, List.set_cons_zero]; rfl) ?_
  refine relPure Ext.refl rfl rfl rfl rfl (c := .int .i64 ((n : Int) - (a : Int))) (fun w hw => by have := e1; go_simp; first | done | rfl) (by simp only [List.set_cons_succ, List.set_cons_zero]; rfl) ?_
  refine relPure Ext.refl rfl rfl rfl rfl (c := .bool true) (fun w hw => by go_simp; first | done | rfl) (by simp only [List.set_cons_succ, List.set_cons_zero]; rfl) ?_
  refine relPick Ext.refl rfl rfl rfl rfl _ _ _ rfl rfl (c := .bool true) rfl (by simp only [List.set_cons_succ, List.set_cons_zero]; rfl) ?_
  refine relEnd fun w2 hw2 => fill_end ?_
  have b2 : Below W.heap.size W w2 := hw2.drew
  have hA2 := hA.below b2
  have HF2 := Lib.hid (HF.out w2 hA2)
  have aG2 := aG.below b2
  have aX2 := aX.below b2
  have bw2 := bW.trans (b2.mono bW.size)
  clear hA HF aG aX b2
  go_upto_region 4 with (go_at_call 35; refine (HF2.out).mono ?_; rintro r w3 ⟨rfl, a3, f3⟩)
  have aG3 := f3.av aG2 (Ne.symm hRG)
  have aX3 := f3.av aX2 (Ne.symm hRX)
  have ff := (Below.fr (S := fun k => k = R) bw2).trans f3
  clear aG2 aX2 f3 bw2 HF2
  go_wp2_with (first
    | ((with_reducible refine wpList_loadF 39 aX3 ?_ _ 32 Zv.out Tryd.underlying39 ?_ ?_ ?_); rfl; rfl; kernel_rfl)
    | ((with_reducible refine wpList_storeFA 39 (Below.refl w.heap.size w3) aG3 hGw (Z.map bv) ?_ ?_ 32 Zv.out ?_ ?_ ?_ ?_); rfl; rfl; kernel_rfl; exact Zv.out; exact Zone.out; intro w4 a4 b4 k4 z4))
  have f4 := Fr.ofStore8 b4 k4 z4
  refine bodyPost_ret (results_cell_row rfl _ _ G _ _ (0, 0) _ (by rfl) a4 Tryd.underlying39 rfl (by rw [List.size_toArray, Zv.out]; kernel_rfl)) rfl ?_
  exact ⟨by rw [hZ.out], f4.av a3 hRG, Fr.transNew ff f4 (fun j h => .inr (by rw [h]; exact hGw))⟩
/-- the first k of a hash, zeros behind -/
def padK (x : List UInt8) (k : Nat) : List UInt8 := x.take k ++ List.replicate (32 - k) 0
theorem padK_zero (x : List UInt8) : padK x 0 = List.replicate 32 0 := by rw [padK, List.take_zero]; rfl
theorem padK_all (x : List UInt8) (h : x.length = 32) : padK x 32 = x := by rw [padK, List.take_of_length_le (by omega), Nat.sub_self, List.replicate_zero, List.append_nil]
theorem padK_length (x : List UInt8) (k : Nat) (h : x.length = 32) (hk : k ≤ 32) : (padK x k).length = 32 := by rw [padK, List.length_append, List.length_take, List.length_replicate, h]; omega
theorem padK_set (x : List UInt8) (k : Nat) (h : x.length = 32) (hk : k < 32) : (padK x k).set k (x[k]'(by omega)) = padK x (k + 1) := by
  unfold padK
  have hl : (x.take k).length = k := by rw [List.length_take, h]; omega
  rw [List.set_append_right _ _ (by omega), hl, Nat.sub_self, show 32 - k = (32 - (k + 1)) + 1 by omega, List.replicate_succ, List.set_cons_zero, List.take_add_one, List.getElem?_eq_getElem (by omega), Option.toList_some, List.append_assoc]
  rfl
set_option maxRecDepth 100000 in
set_option maxHeartbeats 4000000 in
theorem RHash_k (bs : List UInt8) (A : Option Addr) (n c : Nat) (hn : bs.length = n) (hm : n ≤ 1000000000000) (a e : Nat) (ha : a ≤ n) (R : Nat) (w : World) (hA : Av w R 79 (rdc8 A n c a e)) (hr : Rd w A (bs.map bv)) (he : e = 0) (hs : ¬ n - a < 32) :
    Calls Tryd.prog 36 #[.pointer (some ⟨R, 0, none⟩)] w fun r w' => r = .returned (.agg (hcs ((bs.drop a).take 32))) ∧ RdTo R (rdc8 A n c (a + 32) 0) w w' := by
  have _u := And.intro hn (And.intro hm ha)
  clear _u
  have hz := zeros_32
  obtain ⟨Z, hZ⟩ : ∃ Z, Z = List.replicate 32 (0 : UInt8) := ⟨_, rfl⟩
  have Zv : (Z.map bv).length = 32 := by rw [hZ]; rfl
  have Zone : (Z.map bv).all (·.oneCell') = true := by rw [hZ]; rfl
  rw [← hZ] at hz
  obtain ⟨G, hG⟩ : ∃ G, G = w.heap.size := ⟨_, rfl⟩
  obtain ⟨W, hW⟩ : ∃ W, W = (w.alloc (.cells (Z.map bv).toArray 39)).alloc (.cells (Z.map bv).toArray 39) := ⟨_, rfl⟩
  have bW : Below w.heap.size w W := by rw [hW]; exact ((Below.refl _ _).alloc (Nat.le_refl _) _).alloc (by simp) _
  have aG : Av W G 39 (Z.map bv) := by rw [hW, hG]; exact Av.newer8 w (Z.map bv) _ _
  have aX : Av W (G + 1) 39 (Z.map bv) := by rw [hW, hG, ← World.size_alloc w (.cells (Z.map bv).toArray 39)]; exact heap_alloc_new _ _
  have hRl := hA.lt
  have hRG : R ≠ G := by omega
  have hRX : R ≠ G + 1 := by omega
  have hGw : w.heap.size ≤ G := by omega
  have hGX : G ≠ G + 1 := by omega
  replace hA := hA.below bW
  have hr0 := hr
  replace hr := hr.below bW
  replace hZ := Lib.hid hZ
  replace Zv := Lib.hid Zv
  replace Zone := Lib.hid Zone
  replace hW := Lib.hid hW
  replace hG := Lib.hid hG
  subst he
  have t1 : decide ((n : Int) - (a : Int) < 32) = false := by simp; omega
  have e1 : IntKind.i64.wrap ((n : Int) - (a : Int)) = (n : Int) - (a : Int) := by rw [IntKind.wrap_i64]; omega
  obtain ⟨x, hx⟩ : ∃ x, x = (bs.drop a).take 32 := ⟨_, rfl⟩
  have hxl : x.length = 32 := by rw [hx, List.length_take, List.length_drop, hn]; omega
  have hxg : ∀ j (hj : j < 32), bs[a + j]? = some (x[j]'(by omega)) := fun j hj => by
    have h1 : x[j]? = bs[a + j]? := by rw [hx, List.getElem?_take_of_lt hj, List.getElem?_drop]
    rw [← h1]
    exact List.getElem?_eq_getElem (by omega)
  obtain ⟨bb, off, e⟩ := hr.someA (by intro h; have := congrArg List.length h; rw [List.length_map, hn] at this; simp at this; omega)
  subst e
  have hbX0 : bb ≠ G + 1 := by
    have := hr0.lt (by intro h; have := congrArg List.length h; rw [List.length_map, hn] at this; simp at this; omega) _ rfl
    dsimp only at this
    omega
  have hcell : ∀ w' j (hj : j < 32), Rd w' (some ⟨bb, off, none⟩) (bs.map bv) → w'.cell? ⟨bb, off + (a + j), none⟩ = some (bv (x[j]'(by omega))) := by
    intro w' j hj hE
    rcases hE with h | ⟨b', o', hA', hc⟩
    · have := congrArg List.length h; rw [List.length_map, hn] at this; simp at this; omega
    · cases hA'
      exact hc (a + j) _ (by rw [List.getElem?_map, hxg j hj]; rfl)
  have xv : (x.map bv).length = 32 := by rw [List.length_map, hxl]
  have xone : (x.map bv).all (·.oneCell') = true := List.all_eq_true.2 (bv_one x)
  rw [← hx]
  replace hx := Lib.hid hx
  replace hxg := Lib.hid hxg
  replace hcell := Lib.hid hcell
  replace hn := Lib.hid hn
  replace xv := Lib.hid xv
  replace xone := Lib.hid xone
  unfold rdc8 at hA
  go_enter Tryd.func36, Tryd.ntmps36
  go_upto_region 2 with fail
  rw [← hG.out]
  rw [show G + 1 = G + 1 from rfl, ← hW.out]
  refine wp_region_rel [] Ext (by kernel_rfl) (by kernel_rfl) (by kernel_rfl) Ext.refl Ext.trans (by intro p hp; cases hp) ?_
  refine relMove Ext.refl rfl rfl rfl rfl _ (.inl rfl) (by conv => lhs; whnf) (by simp only [List.set_cons_succ, List.set_cons_zero]; rfl) ?_
  refine relPure Ext.refl rfl rfl rfl rfl (fun w _ => by go_simp; first | done | rfl) (by simp only [List.set_cons_succ, List.set_cons_zero]; rfl) ?_
  refine relPure Ext.refl rfl rfl rfl rfl (fun w _ => by go_simp; first | done | rfl) (by simp only [List.set_cons_succ, List.set_cons_zero]; rfl) ?_
  refine relPure Ext.refl rfl rfl rfl rfl (c := .int .i64 0) (fun w hw => by have := (hA.below hw.drew).cell 2 _ rfl; go_simp; first | done | rfl) (by simp only [List.set_cons_succ, List.set_cons_zero]; rfl) ?_
  refine relPure Ext.refl rfl rfl rfl rfl (c := .bool false) (fun w hw => by go_simp; first | done | rfl) (by simp only [List.set_cons_succ, List.set_cons_zero]; rfl) ?_
  refine relMove Ext.refl rfl rfl rfl rfl _ (.inl rfl) (by conv => lhs; whnf) (by simp only [List.set_cons_succ, List.set_cons_zero]; rfl) ?_
  refine relMove Ext.refl rfl rfl rfl rfl _ (.inl rfl) (by conv => lhs; whnf) (by simp only [List.set_cons_succ, List.set_cons_zero]; rfl) ?_
  refine relPure Ext.refl rfl rfl rfl rfl (fun w _ => by go_simp; first | done | rfl) (by simp only [List.set_cons_succ, List.set_cons_zero]; rfl) ?_
  refine relPure Ext.refl rfl rfl rfl rfl (fun w _ => by go_simp; first | done | rfl) (by simp only [List.set_cons_succ, List.set_cons_zero]; rfl) ?_
  refine relPure Ext.refl rfl rfl rfl rfl (c := .slice (some ⟨bb, off, none⟩) n c) (fun w hw => by have := (hA.below hw.drew).cell 0 _ rfl; go_simp; first | done | rfl) (by simp only [List.set_cons_succ, List.set_cons_zero]; rfl) ?_
  refine relPure Ext.refl rfl rfl rfl rfl (fun w _ => by go_simp; first | done | rfl) (by simp only [List.set_cons_succ, List.set_cons_zero]; rfl) ?_
  refine relMove Ext.refl rfl rfl rfl rfl _ (.inl rfl) (by conv => lhs; whnf) (by simp only [List.set_cons_succ, List.set_cons_zero]; rfl) ?_
  refine relPure Ext.refl rfl rfl rfl rfl (fun w _ => by go_simp; first | done | rfl) (by simp only [List.set_cons_succ, List.set_cons_zero]; rfl) ?_
  refine relPure Ext.refl rfl rfl rfl rfl (fun w _ => by go_simp; first | done | rfl) (by simp only [List.set_cons_succ, List.set_cons_zero]; rfl) ?_
  refine relPure Ext.refl rfl rfl rfl rfl (c := .int .i64 (a : Int)) (fun w hw => by have := (hA.below hw.drew).cell 1 _ rfl; go_simp; first | done | rfl) (by simp only [List.set_cons_succ, List.set_cons_zero]; rfl) ?_
  refine relPure Ext.refl rfl rfl rfl rfl (c := .int .i64 ((n : Int) - (a : Int))) (fun w hw => by have := e1; go_simp; first | done | rfl) (by simp only [List.set_cons_succ, List.set_cons_zero]; rfl) ?_
  refine relPure Ext.refl rfl rfl rfl rfl (c := .bool false) (fun w hw => by go_simp; first | done | rfl) (by simp only [List.set_cons_succ, List.set_cons_zero]; rfl) ?_
  refine relPick Ext.refl rfl rfl rfl rfl _ _ _ rfl rfl (c := .bool false) rfl (by simp only [List.set_cons_succ, List.set_cons_zero]; rfl) ?_
  refine relEnd fun w2 hw2 => fill_end ?_
  have b2 : Below W.heap.size W w2 := hw2.drew
  have aX2 := aX.below b2
  have hbX : bb ≠ G + 1 := hbX0
  go_wp2
  go_loopw [4] (fun i wr => ∃ k : Nat, k ≤ 32 ∧ i = .int .i64 (k : Int) ∧ Fr (fun j => j = G + 1) W wr ∧ Av wr (G + 1) 39 ((padK x k).map bv)) (fun i _ => 32 - (intOf i).toNat)
  case atStart => exact ⟨0, by omega, rfl, Below.fr b2, by rw [padK_zero, ← hZ.out]; exact aX2⟩
  case round =>
    clear b2 aX2
    obtain ⟨k, hk, rfl, fr, aX2⟩ := hrel
    have hA2 := fr.av hA hRX
    have hr2 := fr.rd hr (fun a e => by cases e; exact hbX)
    by_cases hk1 : k < 32
    · have tk : decide ((k : Int) < 32) = true := by simp; omega
      have hck := fun w' h => hcell.out w' k hk1 h
      have hbl := Cm.u8_lt (x[k]'(by omega))
      obtain ⟨m, hm9⟩ : ∃ m, m = a + k := ⟨_, rfl⟩
      have hmi : (a : Int) + (k : Int) = (m : Int) := by omega
      rw [← hm9] at hck
      have w5 : IntKind.i64.wrap (m : Int) = (m : Int) := by rw [IntKind.wrap_i64]; omega
      have n1 : (m : Int) < (n : Int) := by omega
      have n0 : (0 : Int) ≤ (m : Int) := by omega
      have k0 : (0 : Int) ≤ (k : Int) := by omega
      have k1 : (k : Int) < 32 := by omega
      have hps := padK_set x k hxl hk1
      obtain ⟨v0, hv0⟩ : ∃ v0, v0 = x[k]'(by omega) := ⟨_, rfl⟩
      rw [← hv0] at hps hck
      replace hv0 := Lib.hid hv0
      replace hm9 := Lib.hid hm9
      replace hck := Lib.hid hck
      replace hps := Lib.hid hps
      clear hbl
      go_wp2
      refine wp_region_relT 14 [] Ext (by kernel_rfl) (by kernel_rfl) (by kernel_rfl) (by kernel_rfl) (by kernel_rfl) Ext.refl Ext.trans (by intro p hp; cases hp) ?_
      refine relMove Ext.refl rfl rfl rfl rfl _ (.inl rfl) (by conv => lhs; whnf) (by simp only [List.set_cons_succ, List.set_cons_zero]; rfl) ?_
      refine relMove Ext.refl rfl rfl rfl rfl _ (.inl rfl) (by conv => lhs; whnf) (by simp only [List.set_cons_succ, List.set_cons_zero]; rfl) ?_
      refine relPure Ext.refl rfl rfl rfl rfl (fun w _ => by go_simp; first | done | rfl) (by simp only [List.set_cons_succ, List.set_cons_zero]; rfl) ?_
      refine relPure Ext.refl rfl rfl rfl rfl (fun w _ => by go_simp; first | done | rfl) (by simp only [List.set_cons_succ, List.set_cons_zero]; rfl) ?_
      refine relPure Ext.refl rfl rfl rfl rfl (c := .slice (some ⟨bb, off, none⟩) n c) (fun w hw => by have := (hA2.below hw.drew).cell 0 _ rfl; go_simp; first | done | rfl) (by simp only [List.set_cons_succ, List.set_cons_zero]; rfl) ?_
      refine relMove Ext.refl rfl rfl rfl rfl _ (.inl rfl) (by conv => lhs; whnf) (by simp only [List.set_cons_succ, List.set_cons_zero]; rfl) ?_
      refine relPure Ext.refl rfl rfl rfl rfl (fun w _ => by go_simp; first | done | rfl) (by simp only [List.set_cons_succ, List.set_cons_zero]; rfl) ?_
      refine relPure Ext.refl rfl rfl rfl rfl (fun w _ => by go_simp; first | done | rfl) (by simp only [List.set_cons_succ, List.set_cons_zero]; rfl) ?_
      refine relPure Ext.refl rfl rfl rfl rfl (c := .int .i64 (a : Int)) (fun w hw => by have := (hA2.below hw.drew).cell 1 _ rfl; go_simp; first | done | rfl) (by simp only [List.set_cons_succ, List.set_cons_zero]; rfl) ?_
      refine relMove Ext.refl rfl rfl rfl rfl _ (.inl rfl) (by conv => lhs; whnf) (by simp only [List.set_cons_succ, List.set_cons_zero]; rfl) ?_
      refine relPure Ext.refl rfl rfl rfl rfl (c := .int .i64 (m : Int)) (fun w hw => by have := hmi; have := w5; go_simp; first | done | rfl) (by simp only [List.set_cons_succ, List.set_cons_zero]; rfl) ?_
      refine relPure Ext.refl rfl rfl rfl rfl (c := .pointer (some ⟨bb, off + m, none⟩)) (fun w hw => by have := n0; have := n1; go_simp; first | done | rfl) (by simp only [List.set_cons_succ, List.set_cons_zero]; rfl) ?_
      refine relPure Ext.refl rfl rfl rfl rfl (c := bv v0) (fun w hw => by have := hck.out w (hr2.below hw.drew); go_simp; first | done | rfl) (by simp only [List.set_cons_succ, List.set_cons_zero]; rfl) ?_
      refine relPure Ext.refl rfl rfl rfl rfl (c := .pointer (some ⟨G + 1, k, none⟩)) (fun w hw => by have := k0; have := k1; go_simp; first | done | rfl) (by simp only [List.set_cons_succ, List.set_cons_zero]; rfl) ?_
      refine relEnd fun w6 hw6 => fill_end ?_
      simp only [List.drop_succ_cons, List.drop_zero]
      have aX6 := aX2.below hw6.drew
      have f6 := fr.trans (Below.fr hw6.drew)
      have cX := aX6.cell k (bv ((padK x k).getD k 0)) (by rw [List.getElem?_map, List.getD_eq_getElem?_getD, List.getElem?_eq_getElem (by rw [padK_length x k hxl hk]; omega)]; rfl)
      have fX := frozen_of_row _ _ k _ _ aX6
      have aX7 := aX6.set k (bv v0)
      rw [← List.map_set, hps.out] at aX7
      have f7 := f6.trans (Fr.setCell w6 ⟨G + 1, k, none⟩ (bv v0))
      replace aX7 := Lib.hid aX7
      replace f7 := Lib.hid f7
      clear aX6 f6 aX2 fr hA2 hr2
      go_wp2
      go_roundw
      case rel => exact ⟨k + 1, by omega, by go_num, f7.out, aX7.out⟩
      case measure => simp [intOf]; omega
    · obtain rfl : k = 32 := by omega
      have tk : decide (((32 : Nat) : Int) < 32) = false := by decide
      rw [padK_all x hxl] at aX2
      have c1 := hA2.cell 1 _ rfl
      have f1 := frozen_of_row _ _ 1 _ _ hA2
      have e3 : IntKind.i64.wrap ((a : Int) + 32) = (a : Int) + 32 := by rw [IntKind.wrap_i64]; omega
      have hA3 := hA2.set 1 (.int .i64 ((a : Int) + 32))
      have f3 := Fr.setCell wr ⟨R, 1, none⟩ (.int .i64 ((a : Int) + 32))
      have aX3 := f3.av aX2 (Ne.symm hRX)
      have aG3 := f3.av (fr.av aG hGX) (Ne.symm hRG)
      have ff := Fr.trans (Fr.transNew (Below.fr (S := fun j => j = R) bW) fr (fun j h => .inr (by omega))) f3
      obtain ⟨w3, hw3⟩ : ∃ w3, w3 = wr.setCell ⟨R, 1, none⟩ (.int .i64 ((a : Int) + 32)) := ⟨_, rfl⟩
      rw [← hw3] at hA3 aX3 aG3 ff
      go_upto_region 10 with fail
      rw [← hw3]
      replace hw3 := Lib.hid hw3
      clear c1 f1 hA2 aX2 fr f3 hA aG aX hr2 hr
      go_wp2_with (first
        | ((with_reducible refine wpList_loadF 39 aX3 ?_ _ 32 xv.out Tryd.underlying39 ?_ ?_ ?_); rfl; rfl; kernel_rfl)
        | ((with_reducible refine wpList_storeFA 39 (Below.refl w.heap.size w3) aG3 hGw (x.map bv) ?_ ?_ 32 xv.out ?_ ?_ ?_ ?_); rfl; rfl; kernel_rfl; exact Zv.out; exact xone.out; intro w4 a4 b4 k4 z4))
      have f4 := Fr.ofStore8 b4 k4 z4
      refine bodyPost_ret (results_cell_row rfl _ _ G _ _ (0, 0) _ (by rfl) a4 Tryd.underlying39 rfl (by rw [List.size_toArray, xv.out]; kernel_rfl)) rfl ?_
      exact ⟨rfl, f4.av hA3 hRG, Fr.transNew ff f4 (fun j h => .inr (by rw [h]; exact hGw))⟩
theorem RHash (bs : List UInt8) (A : Option Addr) (n c : Nat) (hn : bs.length = n) (hm : n ≤ 1000000000000) (a e : Nat) (ha : a ≤ n) (R : Nat) (w : World) (hA : Av w R 79 (rdc8 A n c a e)) (hr : Rd w A (bs.map bv)) :
    Calls Tryd.prog 36 #[.pointer (some ⟨R, 0, none⟩)] w fun r w' => r = .returned (.agg (hcs (padH (sTake bs a e 32).1))) ∧ RdTo R (rdc8 A n c (sTake bs a e 32).2.1 (sTake bs a e 32).2.2) w w' := by
  have p0 : padH [] = List.replicate 32 0 := rfl
  by_cases he : e = 0
  · by_cases hs : n - a < 32
    · rw [show sTake bs a e 32 = ([], a, 1) by rw [sTake, if_neg (by simp [he]), if_pos (by rw [hn]; exact hs)], p0]
      exact RHash_s bs A n c hn hm a e ha R w hA hr he hs
    · rw [show sTake bs a e 32 = ((bs.drop a).take 32, a + 32, 0) by rw [sTake, if_neg (by simp [he]), if_neg (by rw [hn]; exact hs)]]
      rw [show padH ((bs.drop a).take 32) = (bs.drop a).take 32 by
        unfold padH
        rw [List.length_take, List.length_drop, hn, Nat.min_eq_left (by omega)]
        simp]
      exact RHash_k bs A n c hn hm a e ha R w hA hr he hs
  · rw [show sTake bs a e 32 = ([], a, e) by rw [sTake, if_pos he], p0]
    exact RHash_e bs A n c hn hm a e ha R w hA hr he
end Go.Proofs.YtopgljkfoogihaaDoor
