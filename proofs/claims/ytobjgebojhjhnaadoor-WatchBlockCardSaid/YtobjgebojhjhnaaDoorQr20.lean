import Derived.Test.YtobjgebojhjhnaaDoorQr19
import Derived.Test.YtobjgebojhjhnaaDoorQr17
namespace Go.Proofs.YtobjgebojhjhnaaDoor
open Go.RowKit
attribute [local go_sem high] slB_lh slB_l slB_h
structure PV where
 h : Nat
 i : Nat
 d : Bool
def PV.told (x : PV) : Bool := !x.d || x.h == 0
def pVis (n : Nat) (ms : List Bool) : Nat → Nat → List PV
 | 0, i => [⟨0, i, pHas n ms 0 i⟩]
 | h + 1, i => ⟨h + 1, i, pHas n ms (h + 1) i⟩ :: if pHas n ms (h + 1) i then pVis n ms h (2 * i) ++ (if 2 * i + 1 < pWd n h then pVis n ms h (2 * i + 1) else []) else []
theorem pVis_told {n : Nat} {ms : List Bool} {h i : Nat} (ht : pHas n ms h i = true → h = 0) : pVis n ms h i = [⟨h, i, pHas n ms h i⟩] := by
 cases h with
 | zero => rw [pVis]
 | succ h =>
  rw [pVis, if_neg (fun e => by have := ht e; omega)]
theorem pVis_two {n : Nat} {ms : List Bool} {h h' i : Nat} (e : h = h' + 1) (hd : pHas n ms h i = true) (hw : 2 * i + 1 < pWd n h') : pVis n ms h i = ⟨h, i, true⟩ :: (pVis n ms h' (2 * i) ++ pVis n ms h' (2 * i + 1)) := by
 subst e
 rw [pVis, hd, if_pos rfl, if_pos hw]
theorem pVis_one {n : Nat} {ms : List Bool} {h h' i : Nat} (e : h = h' + 1) (hd : pHas n ms h i = true) (hw : ¬ 2 * i + 1 < pWd n h') : pVis n ms h i = ⟨h, i, true⟩ :: pVis n ms h' (2 * i) := by
 subst e
 rw [pVis, hd, if_pos rfl, if_neg hw, List.append_nil]
theorem pVis_head (n : Nat) (ms : List Bool) (h i : Nat) : ∃ r, pVis n ms h i = ⟨h, i, pHas n ms h i⟩ :: r := by
 cases h with
 | zero => exact ⟨_, by rw [pVis]⟩
 | succ h => exact ⟨_, by rw [pVis]⟩
theorem pVis_length (n : Nat) (ms : List Bool) : ∀ (h i : Nat), (pVis n ms h i).length < 2 ^ (h + 1)
 | 0, i => by rw [pVis]; simp
 | h + 1, i => by
  rw [pVis, List.length_cons]
  have h1 := pVis_length n ms h (2 * i)
  have h2 := pVis_length n ms h (2 * i + 1)
  have : 2 ^ (h + 1 + 1) = 2 * 2 ^ (h + 1) := by rw [Nat.pow_succ]; omega
  split
  ·rw [List.length_append]
   split
   ·omega
   ·rw [List.length_nil]; omega
  ·rw [List.length_nil]; omega
def pRem (n : Nat) (ms : List Bool) (st : List (Nat × Nat)) : List PV := st.reverse.flatMap fun p => pVis n ms p.1 p.2
theorem pRem_nil (n : Nat) (ms : List Bool) : pRem n ms [] = [] := rfl
theorem pRem_snoc (n : Nat) (ms : List Bool) (st : List (Nat × Nat)) (h i : Nat) : pRem n ms (st ++ [(h, i)]) = pVis n ms h i ++ pRem n ms st := by simp [pRem]
theorem pRem_length (n : Nat) (ms : List Bool) (st : List (Nat × Nat)) : st.length ≤ (pRem n ms st).length := by
 unfold pRem
 rw [← List.length_reverse]
 generalize st.reverse = l
 induction l with
 | nil => simp
 | cons p l ih =>
  obtain ⟨r, hr⟩ := pVis_head n ms p.1 p.2
  rw [List.flatMap_cons, List.length_append, hr, List.length_cons, List.length_cons]
  omega
structure TKeep (T : TypeId) (w w' : World) : Prop where
 os : w'.os = w.os
 tape : w'.tape = w.tape
 output : w'.output = w.output
 size : w.heap.size ≤ w'.heap.size
 block : ∀ (k : Nat) (cs : Array Value) (fz : Nat × Nat), w.heap[k]? = some (Obj.cells cs T fz) → w'.heap[k]? = w.heap[k]?
structure TOnly (B : Nat) (T : TypeId) (w w' : World) : Prop where
 os : w'.os = w.os
 tape : w'.tape = w.tape
 output : w'.output = w.output
 size : w.heap.size ≤ w'.heap.size
 low : ∀ k : Nat, k < w.heap.size → k < B → w'.heap[k]? = w.heap[k]?
 other : ∀ (k : Nat) (cs : Array Value) (t : TypeId) (fz : Nat × Nat), w.heap[k]? = some (Obj.cells cs t fz) → t ≠ T → w'.heap[k]? = w.heap[k]?
theorem TOnly.ofBelow {B : Nat} {T : TypeId} {w w' : World} (h : Below w.heap.size w w') : TOnly B T w w' :=
 ⟨h.os, h.tape, h.output, h.size, fun k hk _ => h.block k hk, fun k _ _ _ e _ => h.block k (Array.getElem?_eq_some_iff.1 e).1⟩
theorem TOnly.ofGrown {B : Nat} {T : TypeId} {w w' : World} {size n : Nat} {v : Value} {xs : List Value} (ho : w.ownsRow B T size v n xs) (h : w.grownBy w' v.ownBlock) : TOnly B T w w' := by
 refine ⟨h.os, h.tape, h.output, h.size, fun k hk hB => h.block k hk fun e => ?_, fun k _ _ _ e ht => h.block k (Array.getElem?_eq_some_iff.1 e).1 fun e2 => ?_⟩
 ·have := (World.ownsRow.lt ho k e.symm).1
  omega
 ·rcases ho.2 with ⟨h1, _⟩ | ⟨g, cap, cur, e1, e2', e3, _⟩
  ·rw [h1] at e2; simp [Value.ownBlock] at e2
  ·have : g = k := by rw [e1] at e2; simpa [Value.ownBlock] using e2.symm
   subst this
   rw [e3] at e
   injection Option.some.inj e with _ h2
   exact ht h2.symm
theorem TKeep.own {T : TypeId} {w w' : World} {B size n : Nat} {v : Value} {xs : List Value} (h : TKeep T w w') (ho : w.ownsRow B T size v n xs) : w'.ownsRow B T size v n xs := by
 refine ⟨ho.1, ho.2.imp id ?_⟩
 rintro ⟨g, cap, cur, rfl, hb, hg, hrest⟩
 refine ⟨g, cap, cur, rfl, hb, ?_, hrest⟩
 rw [h.block g _ _ hg]
 exact hg
theorem TKeep.av {T : TypeId} {w w' : World} {g : Nat} {l : List Value} (h : TKeep T w w') (ha : Av w g T l) : Av w' g T l := ha.same (h.block g _ _ ha)
theorem TOnly.av {B : Nat} {T t : TypeId} {w w' : World} {g : Nat} {l : List Value} (h : TOnly B T w w') (ha : Av w g t l) (ht : t ≠ T) : Av w' g t l := ha.same (h.other g _ _ _ ha ht)
theorem TOnly.own {B : Nat} {T t : TypeId} {w w' : World} {C size n : Nat} {v : Value} {xs : List Value} (h : TOnly B T w w') (ho : w.ownsRow C t size v n xs) (ht : t ≠ T) : w'.ownsRow C t size v n xs := by
 refine ⟨ho.1, ho.2.imp id ?_⟩
 rintro ⟨g, cap, cur, rfl, hb, hg, hrest⟩
 refine ⟨g, cap, cur, rfl, hb, ?_, hrest⟩
 rw [h.other g _ _ _ hg ht]
 exact hg
theorem TOnly.trans {B : Nat} {T : TypeId} {a b c : World} (h : TOnly B T a b) (k : TOnly B T b c) : TOnly B T a c :=
 ⟨k.os.trans h.os, k.tape.trans h.tape, k.output.trans h.output, Nat.le_trans h.size k.size, fun i hi hB => (k.low i (Nat.lt_of_lt_of_le hi h.size) hB).trans (h.low i hi hB), fun i cs t fz e ht => (k.other i cs t fz ((h.other i cs t fz e ht).trans e) ht).trans (h.other i cs t fz e ht)⟩
theorem TOnly.below {B C : Nat} {T : TypeId} {w0 w w' : World} (h : TOnly B T w w') (hb : Below C w0 w) (hC : C ≤ B) (hC2 : C ≤ w.heap.size) : Below C w0 w' :=
 ⟨h.os.trans hb.os, h.tape.trans hb.tape, h.output.trans hb.output, Nat.le_trans hb.size h.size, fun k hk => (h.low k (by omega) (by omega)).trans (hb.block k hk)⟩
theorem TOnly.rd {B : Nat} {T : TypeId} {w w' : World} {A : Option Addr} {xs : List Value} (h : TOnly B T w w') (hr : Rd w A xs) (hA : ∀ a, A = some a → xs ≠ [] → a.block < B) : Rd w' A xs := by
 rcases hr with e | ⟨b, off, e, hc⟩
 ·exact .inl e
 ·by_cases hx : xs = []
  ·exact .inl hx
  ·exact .inr ⟨b, off, e, fun j u hu => (World.cell?_of_block (a := ⟨b, off + j, none⟩) (h.low b (World.block_lt_of_cell? w _ (hc j u hu)) (hA _ e hx))).trans (hc j u hu)⟩
theorem infoNd : (Tryd.prog.info? 151).map (fun i => (i.size, i.bytes)) = some (2, 16) := by kernel_rfl
theorem zeroPn : (Tryd.prog.info? 151).map (fun i => (i.zero.map (·.cells.size))) = some (some 2) := by kernel_rfl
theorem nd_one {h i : Int} : ∀ u ∈ pnc h i, u.oneCell' = true := by
 intro u hu
 simp only [List.mem_cons, List.not_mem_nil, or_false] at hu
 rcases hu with rfl | rfl <;> rfl
def nsc (st : List (Nat × Nat)) : List Value := st.flatMap fun p => pnc (p.1 : Int) (p.2 : Int)
theorem nsc_len (st : List (Nat × Nat)) : (nsc st).length = st.length * 2 := flat_length _ 2 st fun _ _ => rfl
theorem nsc_snoc (st : List (Nat × Nat)) (h i : Nat) : nsc st ++ pnc (h : Int) (i : Int) = nsc (st ++ [(h, i)]) := by simp [nsc]
theorem bodyPost_endN {P : Program} {fn : Func} {R : Ending → World → Prop} {a : Act} {w : World} (hr : fn.results = #[]) (hd : a.defers = []) (hR : R (.returned (.tuple #[])) w) : bodyPost P fn R .normal a w :=
 bodyPost_end (v := .tuple #[]) (by simp [results, hr]) hd hR
theorem jumps_end {J : Nat → Act → World → Prop} {Q : Exit → Act → World → Prop} {a : Act} {w : World} (h : Q .normal a w) : jumpsTo J Q .normal a w := h
def pWJ (n : Nat) (ms : List Bool) (Am : Option Addr) (nm cm f : Nat) (caps : Array Value) (B : Nat) (Inv : List PV → World → Prop) (all : List PV) (m : Nat) (a : Act) (w : World) : Prop :=
 ∃ (v6 : Value) (st : List (Nat × Nat)) (s : List PV), Slots a 64 [(0, .int .i64 (n : Int)), (1, .slice Am nm cm), (2, .func (.func f) #[] caps), (6, v6)] ∧ Inv s w ∧ B ≤ w.heap.size ∧ w.ownsRow B 151 2 v6 st.length (nsc st) ∧ st ≠ [] ∧
  (∀ p ∈ st, p.1 ≤ 12 ∧ p.2 < pWd n p.1) ∧ s ++ pRem n ms st = all ∧ m = (pRem n ms st).length
set_option maxRecDepth 100000 in
set_option maxHeartbeats 16000000 in
theorem PWalk (ms : List Bool) (nm cm : Nat) (Am : Option Addr) (n f : Nat) (caps : Array Value) (hnm : ms.length = nm) (hnm2 : nm ≤ 1000000) (hn0 : 0 < n) (hn : n ≤ 4096) (Inv : List PV → World → Prop) (B : Nat)
  (hcf : ∀ args w, (callFunc f args).run Tryd.prog w = .ok (.enter f args) w) (hstab : ∀ s w w', Inv s w → TOnly B 151 w w' → Inv s w') (hrd : ∀ s w, Inv s w → Rd w Am (ms.map Value.bool))
  (htell : ∀ s x r w, Inv s w → s ++ x :: r = pVis n ms (pHt n) 0 → x.h ≤ 12 → x.i < pWd n x.h → Calls Tryd.prog f (#[.agg (pnc (x.h : Int) (x.i : Int)).toArray, .bool x.d, .bool x.told] ++ caps) w fun e w' => (∃ r, e = .returned r) ∧ Inv (s ++ [x]) w' ∧ TKeep 151 w w')
  (w : World) (hB : w.heap.size = B) (h0 : Inv [] w) :
  Calls Tryd.prog 55 #[.int .i64 (n : Int), .slice Am nm cm, .func (.func f) #[] caps] w fun e w' => (∃ r, e = .returned r) ∧ Inv (pVis n ms (pHt n) 0) w' := by
 obtain ⟨H, hH⟩ : ∃ H, H = pHt n := ⟨_, rfl⟩
 have hH12 : H ≤ 12 := by rw [hH]; exact (pHt_spec n hn).1
 have HHt : Calls Tryd.prog 63 #[.int .i64 (n : Int)] w fun e w' => e = .returned (.int .i64 (H : Int)) ∧ w' = w := by
  obtain ⟨q1, q2, q3⟩ := pHt_spec n hn
  rw [hH]
  exact Height n (pHt n) q1 (fun j hj => by rw [pWd_of n j hn (by omega)]; have := q2 j hj; omega) (by rw [pWd_of n _ hn q1]; omega) w
 have h1w : 0 < pWd n H := by
  have hp : 0 < 2 ^ H := Nat.pow_pos (by omega)
  unfold pWd
  exact Nat.div_pos (by omega) hp
 rw [← hH] at htell ⊢
 obtain ⟨all, hall⟩ : ∃ all, all = pVis n ms H 0 := ⟨_, rfl⟩
 have hal : all.length ≤ 10000 := by
  rw [hall]
  have := pVis_length n ms H 0
  have : 2 ^ (H + 1) ≤ 2 ^ 13 := Nat.pow_le_pow_right (by omega) (by omega)
  omega
 have hB0 : Inv [] (w.alloc (Obj.cells (pnc (H : Int) 0).toArray 151)) := hstab _ _ _ h0 (TOnly.ofBelow ((Below.refl _ _).alloc (Nat.le_refl _) _))
 rw [← hall] at htell ⊢
 replace hH := Lib.hid hH
 replace hall := Lib.hid hall
 replace hnm := Lib.hid hnm
 replace HHt := Lib.hid HHt
 replace hstab := Lib.hid hstab
 replace hrd := Lib.hid hrd
 replace htell := Lib.hid htell
 replace hB0 := Lib.hid hB0
 replace hB := Lib.hid hB
 go_enter Tryd.func55, Tryd.ntmps55
 refine wp_scope_one 0 (pWJ n ms Am nm cm f caps B Inv all) rfl ?pass0 ?first
 case first =>
  intro key
  go_upto_region 1 with (first
   | (go_at_call 63; refine (HHt.out).mono ?_; rintro e w1 ⟨rfl, rfl⟩)
   | ((with_reducible refine wpList_build1 (e := 151) Tryd.underlying179 infoNd zeroPn ?_ ?_ (pnc (H : Int) 0) ?_ ?_ ?_); decide; decide; rfl; rfl))
  go_step3
  rename_i Q' K hK
  refine hK _ _ (jumps_mono (Y := fun l a w' => ∃ m, (l = 0 ∧ pWJ n ms Am nm cm f caps B Inv all m a w')) ?_ (key _ _ _ ⟨_, [(H, 0)], [], ⟨rfl, rfl, rfl, rfl, rfl, rfl, trivial⟩, hB0.out, by rw [← hB.out]; simp, ?_, by simp, ?_, ?_, rfl⟩))
  ·rintro l a' w' ⟨m', _, h⟩
   exact ⟨m', h⟩
  ·have ha : Av (w1.alloc (Obj.cells (pnc (H : Int) 0).toArray 151)) w1.heap.size 151 (pnc (H : Int) 0 ++ []) := Av.new _ _ _
   exact own_close (Nat.le_of_eq hB.out.symm) (Nat.le_refl _) (by decide) ha rfl rfl
  ·intro p hp
   rw [List.mem_singleton.1 hp]
   exact ⟨hH12, h1w⟩
  ·rw [hall.out, List.nil_append]
   show pRem n ms ([] ++ [(H, 0)]) = _
   rw [pRem_snoc, pRem_nil, List.append_nil]
 case pass0 =>
  intro m a w1 hJ
  obtain ⟨v6, st, s, hS, hI, hBw, o6, hne, hok, hrem, rfl⟩ := hJ
  obtain ⟨st, ⟨h, i⟩, rfl⟩ : ∃ q p, st = q ++ [p] := by
   rcases snoc_cases st with e | e
   ·exact absurd e hne
   ·exact e
  obtain ⟨f, ⟨e0, e1, e2, e6, -⟩, rfl⟩ := hS.frame
  dsimp only at e0 e1 e2 e6
  rw [show (List.range 64).map f = [f 0, f 1, f 2, f 3, f 4, f 5, f 6, f 7, f 8, f 9, f 10, f 11, f 12, f 13, f 14, f 15, f 16, f 17, f 18, f 19, f 20, f 21, f 22, f 23, f 24, f 25, f 26, f 27, f 28, f 29, f 30, f 31, f 32, f 33, f 34, f 35, f 36, f 37, f 38, f 39, f 40, f 41, f 42, f 43, f 44, f 45, f 46, f 47, f 48, f 49, f 50, f 51, f 52, f 53, f 54, f 55, f 56, f 57, f 58, f 59, f 60, f 61, f 62, f 63] from rfl, e0, e1, e2, e6]
  clear e0 e1 e2 e6
  generalize f 3 = u3
  generalize f 4 = u4
  generalize f 5 = u5
  generalize f 7 = u7
  generalize f 8 = u8
  generalize f 9 = u9
  generalize f 10 = u10
  generalize f 11 = u11
  generalize f 12 = u12
  generalize f 13 = u13
  generalize f 14 = u14
  generalize f 15 = u15
  generalize f 16 = u16
  generalize f 17 = u17
  generalize f 18 = u18
  generalize f 19 = u19
  generalize f 20 = u20
  generalize f 21 = u21
  generalize f 22 = u22
  generalize f 23 = u23
  generalize f 24 = u24
  generalize f 25 = u25
  generalize f 26 = u26
  generalize f 27 = u27
  generalize f 28 = u28
  generalize f 29 = u29
  generalize f 30 = u30
  generalize f 31 = u31
  generalize f 32 = u32
  generalize f 33 = u33
  generalize f 34 = u34
  generalize f 35 = u35
  generalize f 36 = u36
  generalize f 37 = u37
  generalize f 38 = u38
  generalize f 39 = u39
  generalize f 40 = u40
  generalize f 41 = u41
  generalize f 42 = u42
  generalize f 43 = u43
  generalize f 44 = u44
  generalize f 45 = u45
  generalize f 46 = u46
  generalize f 47 = u47
  generalize f 48 = u48
  generalize f 49 = u49
  generalize f 50 = u50
  generalize f 51 = u51
  generalize f 52 = u52
  generalize f 53 = u53
  generalize f 54 = u54
  generalize f 55 = u55
  generalize f 56 = u56
  generalize f 57 = u57
  generalize f 58 = u58
  generalize f 59 = u59
  generalize f 60 = u60
  generalize f 61 = u61
  generalize f 62 = u62
  generalize f 63 = u63
  clear hS f
  have hlen : (st ++ [(h, i)]).length = st.length + 1 := by rw [List.length_append]; rfl
  rw [hlen] at o6
  obtain ⟨g, c6, rest, rfl, hBg, hc6, hc6m, av6, hl6⟩ := own_open o6 (by omega)
  obtain ⟨hh, hi⟩ := hok (h, i) (List.mem_append_right _ (List.mem_singleton.2 rfl))
  dsimp only at hh hi
  have hok0 : ∀ p ∈ st, p.1 ≤ 12 ∧ p.2 < pWd n p.1 := fun p hp => hok p (List.mem_append_left _ hp)
  have hi4 : i ≤ 4096 := Nat.le_trans (Nat.le_of_lt hi) (Nat.le_trans (pWd_le n h hn0) hn)
  rw [pRem_snoc] at hrem ⊢
  have hstl : st.length + 1 ≤ 10000 := by
   have h1 := pRem_length n ms (st ++ [(h, i)])
   rw [hlen, pRem_snoc] at h1
   have h2 := congrArg List.length hrem
   rw [List.length_append] at h2
   omega
  obtain ⟨nst, hnst⟩ : ∃ nst, nst = st.length := ⟨_, rfl⟩
  have hnl := nsc_len st
  rw [← hnst] at hnl hc6 o6 hstl ⊢
  have rn : w1.rangeAt g (nst * 2) (pnc (h : Int) (i : Int)) := Av.rangeAt (pre := nsc st) (rest := rest) (by rw [nsc_snoc]; exact av6) _ hnl
  have o6a : w1.ownsRow B 151 2 (.slice (some ⟨g, 0, none⟩) nst c6) nst (nsc st) := own_pop (by rw [nsc_snoc]; exact o6) (by rw [hnl])
  have HM := fun w' r => PMatches ms nm cm Am n h i hnm.out hnm2 hn hh hi4 w' r
  obtain ⟨d, hd⟩ : ∃ d, d = pHas n ms h i := ⟨_, rfl⟩
  rw [← hd] at HM
  have n1 : (nst : Int) ≤ (c6 : Int) := by omega
  have n2 : (nst : Int) + 1 ≤ (c6 : Int) := by omega
  replace hd := Lib.hid hd
  replace HM := Lib.hid HM
  replace hnst := Lib.hid hnst
  replace hlen := Lib.hid hlen
  replace hnl := Lib.hid hnl
  replace hl6 := Lib.hid hl6
  replace hrem := Lib.hid hrem
  replace hi := Lib.hid hi
  replace hok := Lib.hid hok
  replace hok0 := Lib.hid hok0
  have hgX0 := Lib.hid av6.lt
  clear o6 av6 hne
  go_upto_region 3 with (first
   | ((with_reducible refine wpList_loadMF 151 (pnc (h : Int) (i : Int)) rn ?_ _ Tryd.underlying151 ?_ ?_ ?_); rfl; rfl; kernel_rfl)
   | ((with_reducible refine wpList_storeF 151 ((Below.refl w1.heap.size w1).alloc (Nat.le_refl _) _) (heap_alloc_new _ _) (Nat.le_refl _) (pnc (h : Int) (i : Int)) ?_ ?_ 2 rfl ?_ ?_ ?_ ?_); rfl; rfl; kernel_rfl; rfl; rfl; intro w2 aX b2 k2 z2; clear k2; replace z2 := Lib.hid z2))
  obtain ⟨X, hX⟩ : ∃ X, X = w1.heap.size := ⟨_, rfl⟩
  rw [← hX] at aX ⊢
  have hgX : g ≠ X := by have := Hid.out hgX0; omega
  replace hgX := Lib.hid hgX
  replace hX := Lib.hid hX
  have I2 := hstab.out _ _ _ hI (TOnly.ofBelow b2)
  have o62 := own_below o6a b2
  have r2 := hrd.out _ _ I2
  have hB2 : B ≤ w2.heap.size := Nat.le_trans hBw b2.size
  clear hI o6a rn b2 hBw n1 n2
  go_upto_region 4 with (first | ((with_reducible refine wpList_loadF 151 aX ?_ _ 2 rfl Tryd.underlying151 ?_ ?_ ?_); rfl; rfl; kernel_rfl) | go_at_call 79; refine (HM.out w2 r2).mono ?_; rintro e w3 ⟨rfl, b3⟩)
  have I3 := hstab.out _ _ _ I2 (TOnly.ofBelow b3)
  have o63 := own_below o62 b3
  have aX3 := aX.below b3
  have hB3 : B ≤ w3.heap.size := Nat.le_trans hB2 b3.size
  have xh := aX3.cell 0 _ rfl
  clear I2 o62 r2 aX hB2 b3 HM
  cases d with
  | false =>
   have hrem2 : s ++ ⟨h, i, false⟩ :: pRem n ms st = all := by
    have := hrem.out
    rw [pVis_told (fun e => by have := hd.out; rw [e] at this; cases this), ← hd.out] at this
    exact this
   have HT := htell.out s ⟨h, i, false⟩ (pRem n ms st) w3 I3 (by rw [hrem2]) hh hi.out
   rw [show PV.told ⟨h, i, false⟩ = true from rfl] at HT
   dsimp only at HT
   have hm : (pRem n ms st).length < (pVis n ms h i ++ pRem n ms st).length := by
    rw [pVis_told (fun e => by have := hd.out; rw [e] at this; cases this), List.length_append]
    exact Nat.lt_add_of_pos_left (by simp)
   replace hm := Lib.hid hm
   replace HT := Lib.hid HT
   replace hrem2 := Lib.hid hrem2
   clear hrem
   go_upto_region 6 with (first | ((with_reducible refine wpList_loadF 151 aX3 ?_ _ 2 rfl Tryd.underlying151 ?_ ?_ ?_); rfl; rfl; kernel_rfl) | refine (HT.out).mono ?_; rintro e w4 ⟨⟨r, rfl⟩, I4, k4⟩)
   have o64 := k4.own o63
   have hB4 : B ≤ w4.heap.size := Nat.le_trans hB3 k4.size
   clear o63 I3 aX3 xh hB3 HT k4
   rcases snoc_cases st with rfl | ⟨q, p, rfl⟩
   ·obtain rfl : nst = 0 := hnst.out
    have g0 : decide ((0 : Int) < ((0 : Nat) : Int)) = false := rfl
    rw [pRem_nil] at hrem2
    go_wp2
    refine jumps_end (bodyPost_endN rfl rfl ⟨⟨_, rfl⟩, ?_⟩)
    rw [← hrem2.out]
    exact I4
   ·have hql : (q ++ [p]).length = nst := hnst.out.symm
    have g0 : decide ((0 : Int) < (nst : Int)) = true := by
     have := @List.length_append _ q [p]
     have e1 : [p].length = 1 := rfl
     simp
     omega
    have g1 : decide (0 < nst) = true := by
     have := @List.length_append _ q [p]
     have e1 : [p].length = 1 := rfl
     simp
     omega
    replace hql := Lib.hid hql
    go_wp2
    go_step3
    refine jumps_goto ?_
    refine ⟨_, hm.out, rfl, .slice (some ⟨g, 0, none⟩) nst c6, q ++ [p], s ++ [⟨h, i, false⟩], ⟨rfl, rfl, rfl, rfl, rfl, rfl, trivial⟩, I4, hB4, by rw [hql.out]; exact o64, by simp, hok0.out, by rw [← hrem2.out, List.append_assoc]; rfl, rfl⟩
  | true =>
   by_cases h0 : h = 0
   ·subst h0
    have t0 : (((0 : Nat) : Int) == 0) = true := rfl
    have hrem2 : s ++ ⟨0, i, true⟩ :: pRem n ms st = all := by
     have := hrem.out
     rw [pVis_told (fun _ => rfl), ← hd.out] at this
     exact this
    have HT := htell.out s ⟨0, i, true⟩ (pRem n ms st) w3 I3 (by rw [hrem2]) hh hi.out
    rw [show PV.told ⟨0, i, true⟩ = true from rfl] at HT
    dsimp only at HT
    have hm : (pRem n ms st).length < (pVis n ms 0 i ++ pRem n ms st).length := by
     rw [pVis_told (fun _ => rfl), List.length_append]
     exact Nat.lt_add_of_pos_left (by simp)
    replace hm := Lib.hid hm
    replace HT := Lib.hid HT
    replace hrem2 := Lib.hid hrem2
    clear hrem
    go_upto_region 6 with (first | ((with_reducible refine wpList_loadF 151 aX3 ?_ _ 2 rfl Tryd.underlying151 ?_ ?_ ?_); rfl; rfl; kernel_rfl) | refine (HT.out).mono ?_; rintro e w4 ⟨⟨r, rfl⟩, I4, k4⟩)
    have o64 := k4.own o63
    have hB4 : B ≤ w4.heap.size := Nat.le_trans hB3 k4.size
    clear o63 I3 aX3 xh hB3 HT k4
    rcases snoc_cases st with rfl | ⟨q, p, rfl⟩
    ·obtain rfl : nst = 0 := hnst.out
     have g0 : decide ((0 : Int) < ((0 : Nat) : Int)) = false := rfl
     rw [pRem_nil] at hrem2
     go_wp2
     refine jumps_end (bodyPost_endN rfl rfl ⟨⟨_, rfl⟩, ?_⟩)
     rw [← hrem2.out]
     exact I4
    ·have hql : (q ++ [p]).length = nst := hnst.out.symm
     have g0 : decide ((0 : Int) < (nst : Int)) = true := by
      have := @List.length_append _ q [p]
      have e1 : [p].length = 1 := rfl
      simp
      omega
     have g1 : decide (0 < nst) = true := by
      have := @List.length_append _ q [p]
      have e1 : [p].length = 1 := rfl
      simp
      omega
     replace hql := Lib.hid hql
     go_wp2
     go_step3
     refine jumps_goto ?_
     refine ⟨_, hm.out, rfl, .slice (some ⟨g, 0, none⟩) nst c6, q ++ [p], s ++ [⟨0, i, true⟩], ⟨rfl, rfl, rfl, rfl, rfl, rfl, trivial⟩, I4, hB4, by rw [hql.out]; exact o64, by simp, hok0.out, by rw [← hrem2.out, List.append_assoc]; rfl, rfl⟩
   ·obtain ⟨h', eh⟩ : ∃ h', h = h' + 1 := ⟨h - 1, by omega⟩
    have t0 : ((h : Int) == 0) = false := by simp; omega
    obtain ⟨xd, hxd⟩ : ∃ xd, xd = (⟨h, i, true⟩ : PV) := ⟨_, rfl⟩
    obtain ⟨b, hb⟩ : ∃ b, b = decide (2 * i + 1 < pWd n h') := ⟨_, rfl⟩
    have HRt : ∀ w', Calls Tryd.prog 68 #[.agg (pnc (h : Int) (i : Int)).toArray, .int .i64 (n : Int)] w' fun e w'' => e = .returned (.tuple #[.agg (pnc (h' : Int) (2 * (i : Int) + 1)).toArray, .bool b]) ∧ Below w'.heap.size w' w'' := fun w' => by
     have := PRight n h' i hn (by omega) (by omega) w'
     rwa [show (h' : Int) + 1 = (h : Int) by omega, ← hb] at this
    have HL : ∀ w', Calls Tryd.prog 65 #[.agg (pnc (h : Int) (i : Int)).toArray] w' fun e w'' => e = .returned (.agg (pnc (h' : Int) (2 * (i : Int))).toArray) ∧ Below w'.heap.size w' w'' := fun w' => by
     have := PLeft (h : Int) (i : Int) (by omega) (by omega) (by omega) (by omega) w'
     rwa [show (h : Int) - 1 = (h' : Int) by omega] at this
    obtain ⟨r0, hr0⟩ : ∃ r0, pVis n ms h i = ⟨h, i, true⟩ :: r0 := by
     obtain ⟨r, hr⟩ := pVis_head n ms h i
     rw [← hd.out] at hr
     exact ⟨r, hr⟩
    have HT := htell.out s ⟨h, i, true⟩ (r0 ++ pRem n ms st) w3 I3 (by rw [← hrem.out, hr0]; rfl) hh hi.out
    rw [show PV.told ⟨h, i, true⟩ = false by simp [PV.told, h0]] at HT
    dsimp only at HT
    have hi2 : 2 * i < pWd n h' := by
     have := hi.out
     rw [eh, pWd_succ] at this
     omega
    replace HT := Lib.hid HT
    replace HRt := Lib.hid HRt
    replace HL := Lib.hid HL
    replace hb := Lib.hid hb
    replace hxd := Lib.hid hxd
    replace hr0 := Lib.hid hr0
    replace hi2 := Lib.hid hi2
    replace eh := Lib.hid eh
    go_upto_region 7 with (first | ((with_reducible refine wpList_loadF 151 aX3 ?_ _ 2 rfl Tryd.underlying151 ?_ ?_ ?_); rfl; rfl; kernel_rfl) | refine (HT.out).mono ?_; rintro e w4 ⟨⟨r, rfl⟩, I4, k4⟩)
    have o64 := k4.own o63
    have aX4 := k4.av aX3
    have hB4 : B ≤ w4.heap.size := Nat.le_trans hB3 k4.size
    clear o63 I3 aX3 xh hB3 HT k4
    go_upto_region 8 with (first
     | ((with_reducible refine wpList_loadF 151 aX4 ?_ _ 2 rfl Tryd.underlying151 ?_ ?_ ?_); rfl; rfl; kernel_rfl)
     | (go_at_call 68; refine (HRt.out w4).mono ?_; rintro e w5 ⟨rfl, b5⟩)
     | ((with_reducible refine wpList_storeF 151 ((Below.refl w5.heap.size w5).alloc (Nat.le_refl _) _) (heap_alloc_new _ _) (Nat.le_refl _) (pnc (h' : Int) (2 * (i : Int) + 1)) ?_ ?_ 2 rfl ?_ ?_ ?_ ?_); rfl; rfl; kernel_rfl; rfl; rfl; intro w6 aY b6 k6 z6; clear k6; replace z6 := Lib.hid z6))
    obtain ⟨Y, hY⟩ : ∃ Y, Y = w5.heap.size := ⟨_, rfl⟩
    rw [← hY] at aY ⊢
    replace hY := Lib.hid hY
    have b46 := b5.trans (b6.mono b5.size)
    have I6 := hstab.out _ _ _ I4 (TOnly.ofBelow b46)
    have o66 := own_below o64 b46
    have aX6 := aX4.below b46
    have hB6 : B ≤ w6.heap.size := Nat.le_trans hB4 b46.size
    clear I4 o64 aX4 hB4 b5 b6 b46
    cases b with
    | false =>
     have hnw : ¬ 2 * i + 1 < pWd n h' := by have := hb.out; simpa using this.symm
     have hr1 : pVis n ms h i = ⟨h, i, true⟩ :: pVis n ms h' (2 * i) := pVis_one eh.out hd.out.symm hnw
     replace hnw := Lib.hid hnw
     replace hr1 := Lib.hid hr1
     go_upto_region 11 with (first
      | ((with_reducible refine wpList_loadF 151 aX6 ?_ _ 2 rfl Tryd.underlying151 ?_ ?_ ?_); rfl; rfl; kernel_rfl)
      | (go_at_call 65; refine (HL.out w6).mono ?_; rintro e w10 ⟨rfl, b10⟩; have bal := b10.trans (((Below.refl w10.heap.size w10).alloc (Nat.le_refl _) (Obj.cells (pnc (h' : Int) (2 * (i : Int))).toArray 151)).mono b10.size); have o6c := own_below o66 bal; have Ic := hstab.out _ _ _ I6 (TOnly.ofBelow bal); have hBc := Lib.hid (Nat.le_trans hB6 bal.size); clear bal)
      | ((with_reducible refine wpList_build1 (e := 151) Tryd.underlying179 infoNd zeroPn ?_ ?_ (pnc (h' : Int) (2 * (i : Int))) ?_ ?_ ?_); decide; decide; rfl; rfl)
      | (at_builtin; refine wpList_appE Tryd.underlying179 infoNd zeroPn (by decide) o6c hBc.out (pnc (h' : Int) (2 * (i : Int))) 1 1 (Av.rd (t := 151) (heap_alloc_new _ _)) rfl nd_one (by omega) (by omega) rfl (.tmp 56) (.tmp 59) rfl rfl rfl ?_; intro v11 w11 o11 gr11 ob11; obtain ⟨A11, c11, rfl, hc11, _⟩ := own_form o11))
     have I11 := hstab.out _ _ _ Ic (TOnly.ofGrown o6c gr11)
     have hB11 : B ≤ w11.heap.size := Nat.le_trans hBc.out gr11.size
     rw [show (2 * (i : Int)) = ((2 * i : Nat) : Int) by omega, nsc_snoc] at o11
     clear o66 I6 hB6 aX6 o6c Ic hBc ob11 gr11 HL HRt
     have g1 : decide (0 < nst + 1) = true := by simp
     go_wp2
     go_step3
     refine jumps_goto ?_
     have hrem3 : s ++ ⟨h, i, true⟩ :: pRem n ms (st ++ [(h', 2 * i)]) = all := by
      have := hrem.out
      rw [hr1.out] at this
      rw [pRem_snoc, ← this]
      simp
     refine ⟨(pRem n ms (st ++ [(h', 2 * i)])).length, ?_, rfl, .slice A11 (nst + 1) c11, st ++ [(h', 2 * i)], s ++ [⟨h, i, true⟩], ⟨rfl, rfl, rfl, rfl, rfl, rfl, trivial⟩, I11, hB11, ?_, by simp, ?_, by rw [← hrem3, List.append_assoc]; rfl, rfl⟩
     ·have e1 := congrArg List.length hrem3
      have e2 := congrArg List.length hrem.out
      simp only [List.length_append, List.length_cons] at e1 e2 ⊢
      omega
     ·have e3 : (st ++ [(h', 2 * i)]).length = nst + 1 := by rw [hnst.out]; simp
      rw [e3]
      exact o11
     ·intro p hp
      rcases List.mem_append.1 hp with hp | hp
      ·exact hok0.out p hp
      ·rw [List.mem_singleton.1 hp]; exact ⟨by have := eh.out; dsimp only; omega, hi2.out⟩
    | true =>
     have hnw : 2 * i + 1 < pWd n h' := by have := hb.out; simpa using this.symm
     have hr1 : pVis n ms h i = ⟨h, i, true⟩ :: (pVis n ms h' (2 * i) ++ pVis n ms h' (2 * i + 1)) := pVis_two eh.out hd.out.symm hnw
     replace hr1 := Lib.hid hr1
     replace hnw := Lib.hid hnw
     have bal := (Below.refl w6.heap.size w6).alloc (Nat.le_refl _) (Obj.cells (pnc (h' : Int) (2 * (i : Int) + 1)).toArray 151)
     have o6b := own_below o66 bal
     have Ib := hstab.out _ _ _ I6 (TOnly.ofBelow bal)
     have aXb := aX6.below bal
     have hBb : B ≤ (w6.alloc (Obj.cells (pnc (h' : Int) (2 * (i : Int) + 1)).toArray 151)).heap.size := Nat.le_trans hB6 bal.size
     replace hBb := Lib.hid hBb
     clear bal
     go_upto_region 10 with (first
      | ((with_reducible refine wpList_loadF 151 aY ?_ _ 2 rfl Tryd.underlying151 ?_ ?_ ?_); rfl; rfl; kernel_rfl)
      | ((with_reducible refine wpList_build1 (e := 151) Tryd.underlying179 infoNd zeroPn ?_ ?_ (pnc (h' : Int) (2 * (i : Int) + 1)) ?_ ?_ ?_); decide; decide; rfl; rfl)
      | (at_builtin; refine wpList_appE Tryd.underlying179 infoNd zeroPn (by decide) o6b hBb.out (pnc (h' : Int) (2 * (i : Int) + 1)) 1 1 (Av.rd (t := 151) (heap_alloc_new _ _)) rfl nd_one (by omega) (by omega) rfl (.tmp 52) (.tmp 54) rfl rfl rfl ?_; intro v9 w9 o9 gr9 ob9))
     have I9 := hstab.out _ _ _ Ib (TOnly.ofGrown o6b gr9)
     have aX9 := (Fr.of_grown gr9).av aXb (fun e => hgX.out (Option.some.inj e).symm)
     have hB9 : B ≤ w9.heap.size := Nat.le_trans hBb.out gr9.size
     rw [show (2 * (i : Int) + 1) = ((2 * i + 1 : Nat) : Int) by omega, nsc_snoc] at o9
     clear o66 I6 hB6 aX6 o6b Ib aXb hBb ob9 gr9
     go_upto_region 11 with (first
      | ((with_reducible refine wpList_loadF 151 aX9 ?_ _ 2 rfl Tryd.underlying151 ?_ ?_ ?_); rfl; rfl; kernel_rfl)
      | (go_at_call 65; refine (HL.out w9).mono ?_; rintro e w10 ⟨rfl, b10⟩; have bal := b10.trans (((Below.refl w10.heap.size w10).alloc (Nat.le_refl _) (Obj.cells (pnc (h' : Int) (2 * (i : Int))).toArray 151)).mono b10.size); have o6c := own_below o9 bal; have Ic := hstab.out _ _ _ I9 (TOnly.ofBelow bal); have hBc := Lib.hid (Nat.le_trans hB9 bal.size); clear bal)
      | ((with_reducible refine wpList_build1 (e := 151) Tryd.underlying179 infoNd zeroPn ?_ ?_ (pnc (h' : Int) (2 * (i : Int))) ?_ ?_ ?_); decide; decide; rfl; rfl)
      | (at_builtin; refine wpList_appE Tryd.underlying179 infoNd zeroPn (by decide) o6c hBc.out (pnc (h' : Int) (2 * (i : Int))) 1 1 (Av.rd (t := 151) (heap_alloc_new _ _)) rfl nd_one (by omega) (by omega) rfl (.tmp 56) (.tmp 59) rfl rfl rfl ?_; intro v11 w11 o11 gr11 ob11; obtain ⟨A11, c11, rfl, hc11, _⟩ := own_form o11))
     have I11 := hstab.out _ _ _ Ic (TOnly.ofGrown o6c gr11)
     have hB11 : B ≤ w11.heap.size := Nat.le_trans hBc.out gr11.size
     rw [show (2 * (i : Int)) = ((2 * i : Nat) : Int) by omega, nsc_snoc] at o11
     clear o9 I9 hB9 aX9 o6c Ic hBc ob11 gr11 HL HRt
     have g1 : decide (0 < (nst + 1) + 1) = true := by simp
     go_wp2
     go_step3
     refine jumps_goto ?_
     have hrem3 : s ++ ⟨h, i, true⟩ :: pRem n ms ((st ++ [(h', 2 * i + 1)]) ++ [(h', 2 * i)]) = all := by
      have := hrem.out
      rw [hr1.out] at this
      rw [pRem_snoc, pRem_snoc, ← this]
      simp
     refine ⟨(pRem n ms ((st ++ [(h', 2 * i + 1)]) ++ [(h', 2 * i)])).length, ?_, rfl, .slice A11 ((nst + 1) + 1) c11, (st ++ [(h', 2 * i + 1)]) ++ [(h', 2 * i)], s ++ [⟨h, i, true⟩], ⟨rfl, rfl, rfl, rfl, rfl, rfl, trivial⟩, I11, hB11, ?_, by simp, ?_, by rw [← hrem3, List.append_assoc]; rfl, rfl⟩
     ·have e1 := congrArg List.length hrem3
      have e2 := congrArg List.length hrem.out
      simp only [List.length_append, List.length_cons] at e1 e2 ⊢
      omega
     ·have e3 : ((st ++ [(h', 2 * i + 1)]) ++ [(h', 2 * i)]).length = (nst + 1) + 1 := by rw [hnst.out]; simp
      rw [e3]
      exact o11
     ·intro p hp
      rcases List.mem_append.1 hp with hp | hp
      ·rcases List.mem_append.1 hp with hp | hp
       ·exact hok0.out p hp
       ·rw [List.mem_singleton.1 hp]; exact ⟨by have := eh.out; dsimp only; omega, hnw.out⟩
      ·rw [List.mem_singleton.1 hp]; exact ⟨by have := eh.out; dsimp only; omega, hi2.out⟩
end Go.Proofs.YtobjgebojhjhnaaDoor
namespace Go.Proofs.YtobjgebojhjhnaaDoor
open Go.RowKit Go.Shelf
attribute [local go_sem] Oper.semAt_some
def scl (ps : List (Option Addr × Nat)) (ls : List (List (List UInt8))) : List Value := List.zipWith (fun (p : Option Addr × Nat) (x : List (List UInt8)) => Value.slice p.1 x.length p.2) ps ls
def LvAt (w : World) (ps : List (Option Addr × Nat)) (ls : List (List (List UInt8))) : Prop :=
 ps.length = ls.length ∧ ∀ (i : Nat) (p : Option Addr × Nat) (x : List (List UInt8)), ps[i]? = some p → ls[i]? = some x → Rd w p.1 (hcl x) ∧ x.length ≤ p.2
theorem scl_snoc (ps : List (Option Addr × Nat)) (ls : List (List (List UInt8))) (h : ps.length = ls.length) (A : Option Addr) (c : Nat) (x : List (List UInt8)) : scl (ps ++ [(A, c)]) (ls ++ [x]) = scl ps ls ++ [.slice A x.length c] := by
 rw [scl, scl, List.zipWith_append h]; rfl
theorem scl_get (ps : List (Option Addr × Nat)) (ls : List (List (List UInt8))) (i : Nat) (p : Option Addr × Nat) (x : List (List UInt8)) (hp : ps[i]? = some p) (hx : ls[i]? = some x) : (scl ps ls)[i]? = some (Value.slice p.1 x.length p.2) := by
 rw [scl, List.getElem?_zipWith, hp, hx]
theorem LvAt.keep {w w' : World} {ps : List (Option Addr × Nat)} {ls : List (List (List UInt8))} (h : LvAt w ps ls) (hk : ∀ p ∈ ps, ∀ xs, Rd w p.1 xs → Rd w' p.1 xs) : LvAt w' ps ls :=
 ⟨h.1, fun i p x hp hx => ⟨hk p (List.mem_of_getElem? hp) _ (h.2 i p x hp hx).1, (h.2 i p x hp hx).2⟩⟩
theorem LvAt.below {w w' : World} {ps : List (Option Addr × Nat)} {ls : List (List (List UInt8))} (h : LvAt w ps ls) (hb : Below w.heap.size w w') : LvAt w' ps ls :=
 h.keep fun _ _ _ hr => hr.below hb
theorem LvAt.snoc {w : World} {ps : List (Option Addr × Nat)} {ls : List (List (List UInt8))} (h : LvAt w ps ls) {A : Option Addr} {c : Nat} {x : List (List UInt8)} (hr : Rd w A (hcl x)) (hc : x.length ≤ c) : LvAt w (ps ++ [(A, c)]) (ls ++ [x]) := by
 refine ⟨by simp [h.1], fun i p y hp hy => ?_⟩
 rcases Nat.lt_or_ge i ps.length with hi | hi
 ·rw [List.getElem?_append_left hi] at hp
  rw [List.getElem?_append_left (by rw [← h.1]; exact hi)] at hy
  exact h.2 i p y hp hy
 ·rw [List.getElem?_append_right hi] at hp
  rw [List.getElem?_append_right (by rw [← h.1]; exact hi)] at hy
  obtain ⟨hi0, rfl⟩ : i - ps.length = 0 ∧ (A, c) = p := by
   cases hk : i - ps.length with
   | zero => rw [hk] at hp; exact ⟨rfl, by simpa using hp⟩
   | succ k => rw [hk] at hp; simp at hp
  rw [← h.1, hi0] at hy
  obtain rfl : x = y := by simpa using hy
  exact ⟨hr, hc⟩
theorem Rd.grownOther {W W' : World} {A : Option Addr} {xs : List Value} {row : Option Nat} (h : Rd W A xs) (hg : W.grownBy W' row) (hne : ∀ a, A = some a → row ≠ some a.block) : Rd W' A xs := by
 rcases h with h | ⟨b, off, hA, hc⟩
 ·exact .inl h
 ·exact .inr ⟨b, off, hA, fun j u hu => (World.cell?_of_block (a := ⟨b, off + j, none⟩) (hg.block b (World.block_lt_of_cell? W _ (hc j u hu)) (fun e => hne _ hA e.symm))).trans (hc j u hu)⟩
theorem Rd.setOther' {w : World} {A : Option Addr} {xs : List Value} (h : Rd w A xs) (a : Addr) (v : Value) (hne : ∀ a', A = some a' → a.block ≠ a'.block) : Rd (w.setCell a v) A xs := by
 rcases h with h | ⟨b', off', hA, hc⟩
 ·exact .inl h
 ·exact .inr ⟨_, _, hA, fun j u hu => (World.cell?_of_block (heap_setCell_other w a b' v (Ne.symm (hne _ hA)))).trans (hc j u hu)⟩
theorem info_hs : (Tryd.prog.info? 23).map (fun i => (i.zero, i.size, i.bytes)) = some (some (.slice none 0 0), 1, 24) := by kernel_rfl
set_option maxRecDepth 10000 in
set_option maxHeartbeats 2000000 in
theorem Levels (l : List (List UInt8)) (h32 : All32 l) (A0 : Option Addr) (m c0 : Nat) (hm : l.length = m) (w : World) (hr : Rd w A0 (hcl l)) (ht : Tabs w) :
  Calls Tryd.prog 54 #[.slice A0 m c0] w fun e w' => ∃ v ps, e = .returned v ∧ w'.ownsRow w.heap.size 23 1 v (mLv l).length (scl ps (mLv l)) ∧ LvAt w' ps (mLv l) ∧ (∀ p ∈ ps, ∀ a, p.1 = some a → v.ownBlock ≠ some a.block) ∧ Below w.heap.size w w' := by
 replace hm := Lib.hid hm
 obtain ⟨i0, hi0, hz0, hz1, hz2⟩ := info_parts info_hs
 refine (callsIn_wide (n := 5)).1 ?_
 refine callsIn_of_wp_marks Tryd.func54 rfl trivial ?_ rfl
 simp only [Tryd.ntmps54, List.size_toArray, List.length_cons, List.length_nil, Nat.reduceAdd, Nat.reduceSub, Array.replicate_succ, Array.replicate_zero, List.push_toArray, List.append_toArray, List.nil_append, List.cons_append]
 refine wpIn_wide.2 ?_
 go_wp2_with (go_at_call 53; refine (levels A0 m c0 _).mono ?_; rintro e w1 ⟨rfl, rfl⟩)
 obtain ⟨W0, hW0⟩ : ∃ W0, W0 = (w.alloc (.cells #[.slice none 0 0] 147)).alloc (.cells #[.slice A0 m c0] 23) := ⟨_, rfl⟩
 have e : ∀ (v : World) (o : Obj), (v.alloc o).heap.size = v.heap.size + 1 := fun v o => by simp
 have hsz : W0.heap.size = w.heap.size + 2 := by rw [hW0, e, e]
 have hB0 : Below w.heap.size w W0 := by rw [hW0]; exact ((Below.refl _ _).alloc (Nat.le_refl _) _).alloc (by simp) _
 have hA0 : Av W0 w.heap.size 147 [.slice none 0 0] := by rw [hW0]; exact heap_alloc2_old _ _ _
 have hcb : W0.cell? ⟨w.heap.size + 1, 0, none⟩ = some (.slice A0 m c0) := by
  have := heap_alloc_new (w.alloc (.cells #[.slice none 0 0] 147)) (.cells #[.slice A0 m c0] 23)
  rw [← hW0, e] at this
  exact Av.cell (l := [.slice A0 m c0]) this 0 _ rfl
 rw [← hW0]
 clear hW0
 have hl13 : (mLv l).length ≤ 13 := mLv_len l
 refine wpIn_wide.1 (wpIn_rangeFunc_lv (n := 5) (by omega) (gf := 77) (lb := #[.pointer (some ⟨w.heap.size + 1, 0, none⟩)]) rfl (enters_of Tryd.func77 (by kernel_rfl) rfl)
  (levels1_in 4 (by omega) l h32 A0 m c0 hm.out (w.heap.size + 1) W0 hcb (hr.below hB0) (by omega)) rfl
  (fun j b W => ∃ v ps, Av W w.heap.size 147 [v] ∧ W.ownsRow (w.heap.size + 2) 23 1 v ((mLv l).take j).length (scl ps ((mLv l).take j)) ∧ LvAt W ps ((mLv l).take j) ∧ (∀ p ∈ ps, ∀ a, p.1 = some a → v.ownBlock ≠ some a.block ∧ w.heap.size + 2 ≤ a.block) ∧ (∀ k, v.ownBlock = some k → k < b) ∧ Below w.heap.size w W ∧ w.heap.size + 2 ≤ b)
  ?hI (fun j b W h => by obtain ⟨v, ps, h⟩ := h; exact ht.below h.2.2.2.2.2.1) ?h0 (fun v => { tmps := #[.slice A0 m c0, undef, .slice none 0 0, .pointer (some ⟨w.heap.size, 0, none⟩), v, .slice A0 m c0, .func (.func 77) #[] #[.pointer (some ⟨w.heap.size + 1, 0, none⟩)], v, undef, undef, undef, undef, undef], defers := [] }) ?assign ?body ?done)
 case hI =>
  rintro j b W W' row ⟨v, ps, i1, i2, i3, i4, i5, i6, i7⟩ hg hrow
  have hrow' : ∀ r, row = some r → ∃ o : Obj, W.heap[r]? = some o ∧ o.isCells = false := fun r e => (hrow r e).2
  refine ⟨v, ps, i1.grown hg hrow', i2.kept hg ?_, i3.keep fun p _ xs h => h.grown hg hrow', i4, i5, i6.grown hg i6.size (fun k e => by have := (hrow k e).1; omega), i7⟩
  rcases i2.2 with ⟨rfl, _⟩ | ⟨g, cap, cur, rfl, _, hgb, _⟩
  ·exact .inl rfl
  ·refine .inr fun e' => ?_
   obtain ⟨o, ho, hc⟩ := hrow' g e'.symm
   rw [hgb] at ho; cases ho; cases hc
 case h0 =>
  intro b hb
  exact ⟨_, [], hA0, by rw [List.take_zero]; exact World.ownsRow_nil _ _ _ _, by rw [List.take_zero]; exact ⟨rfl, fun i p x hp => by simp at hp⟩, fun p hp => (by cases hp), fun k hk => (by cases hk), hB0, by omega⟩
 case assign =>
  intro l' v W K hK
  gi_wp2
  exact hK
 case body =>
  rintro l' j x b W A c hx ⟨v, ps, i1, i2, i3, i4, i5, i6, i7⟩ ⟨hrx, hfx⟩ hxc hbW
  have hj : j < (mLv l).length := (List.getElem?_eq_some_iff.1 hx).1
  obtain ⟨hx32, hx0, hx4⟩ := mLv_mem l h32 x (List.mem_of_getElem? hx)
  have htk : (mLv l).take (j + 1) = (mLv l).take j ++ [x] := by rw [List.take_add_one, hx]; rfl
  have hlj : ((mLv l).take j).length = j := by rw [List.length_take]; omega
  generalize hT : (mLv l).take j = T at *
  obtain ⟨n, hn⟩ : ∃ n, x.length = n := ⟨_, rfl⟩
  obtain ⟨Ao, co, rfl, hco, _⟩ := own_form i2
  rw [hlj] at i2 hco i5 i4 i1
  rw [hn] at hxc ⊢
  replace hn := Lib.hid hn
  replace hT := Lib.hid hT
  replace hlj := Lib.hid hlj
  have hne : ∀ a, A = some a → (Value.slice Ao j co).ownBlock ≠ some a.block := fun a ha e => by have := i5 _ e; have := hfx a ha; omega
  have hvb : ∀ k, (Value.slice Ao j co).ownBlock = some k → k < W.heap.size := fun k hk => Nat.lt_of_lt_of_le (i5 k hk) hbW
  have hwb : w.heap.size + 2 ≤ W.heap.size := by omega
  have iw : w.heap.size < W.heap.size := by omega
  have H := Lib.hid i2
  have H3 := Lib.hid i3
  have H4 := Lib.hid i4
  have HX := Lib.hid hne
  have hrA := Lib.hid hrx
  have hc := i1.cell 0 _ rfl
  clear i2 i3 i4 hne hrx i5
  gi_wp2_with (
   refine wpListIn_of_wpList l' _ _ _ (by kernel_rfl) ?_
   go_wp2_with (at_builtin; refine wpList_append_rd (W.alloc (.cells #[.slice A n c] 23)) rfl (.tmp 8) (.tmp 10) 147 rfl (w.heap.size + 2) 23 i0 (.slice none 0 0) 1 24 Tryd.underlying147 hi0 hz0 hz1 hz2 rfl (by decide) (.slice Ao j co) j (scl ps T) rfl (H.out.alloc _) (some ⟨W.heap.size, 0, none⟩) 1 1 [.slice A n c] rfl rfl (Rd.one _ _ _) (by simp [Value.oneCell']) (by simp only [maxLen]; omega) (by omega) (by simp; omega) ?_; intro v3 w3 o3 gr3 ob3; obtain ⟨A3, c3, rfl, hc3, _⟩ := own_form o3; have q1 := (Av.alloc i1 (.cells #[.slice A n c] 23)).same (gr3.block _ (by simp; omega) (fun e => by have := (World.ownsRow.lt H.out _ e.symm).1; omega)); have qc := q1.cell 0 _ rfl; have qf := frozen_of_row _ _ 0 _ _ q1)
   unfold nrm)
  have hal : (W.alloc (.cells #[.slice A n c] 23)).heap.size = W.heap.size + 1 := e _ _
  rw [hal] at ob3
  have bA : Below W.heap.size W (W.alloc (.cells #[.slice A n c] 23)) := (Below.refl _ _).alloc (Nat.le_refl _) _
  have oA := own_below H.out bA
  have z3 : W.heap.size + 1 ≤ w3.heap.size := by rw [← hal]; exact gr3.size
  have b3 : Below w.heap.size w w3 := own_app (base := w.heap.size) (i6.trans (bA.mono (by omega))) (by exact ⟨oA.1, oA.2.imp id fun ⟨g, cap, cur, e1, e2, e3⟩ => ⟨g, cap, cur, e1, by omega, e3⟩⟩) gr3 (by rw [hal]; omega)
  have ke : ∀ A' xs, Rd W A' xs → (∀ a, A' = some a → (Value.slice Ao j co).ownBlock ≠ some a.block) → Rd w3 A' xs := fun A' xs h hn' => (h.below bA).grownOther gr3 hn'
  have blt : ∀ A' y, All32 y → 0 < y.length → Rd W A' (hcl y) → ∀ a, A' = some a → a.block < W.heap.size := by
   intro A' y hy h0 h a ha
   rcases h with h | ⟨b', off', hA, hc'⟩
   ·exact absurd h (hcl_ne hy h0)
   ·rw [hA] at ha; cases ha
    have hl := hcl_length hy
    have h1 := hc' 0 _ (List.getElem?_eq_getElem (by rw [hl]; omega))
    exact World.block_lt_of_cell? W _ h1
  have kf3 : KeepsFrom W0.heap.size W w3 := by
   refine (keepsFrom_below bA).trans ⟨gr3.size, fun k' o' hk' ho' hc' => ?_⟩
   have hlt := (Array.getElem?_eq_some_iff.1 ho').1
   refine (gr3.block k' hlt fun e => ?_).trans ho'
   rcases oA.2 with ⟨e2, _⟩ | ⟨g, cap, cur, e2, _, hgb, _⟩
   ·rw [e2] at e; cases e
   ·rw [e2] at e
    obtain rfl : k' = g := by simpa [Value.ownBlock] using e
    rw [hgb] at ho'; cases ho'; cases hc'
  have own3lt := World.ownsRow.lt o3
  have hA2 : ∀ a, A = some a → w.heap.size + 2 ≤ a.block := fun a ha => Nat.le_trans i7 (hfx a ha)
  refine ⟨kf3.trans ((KeepsOthers.setCell w3 ⟨w.heap.size, 0, none⟩ (.slice A3 (j + 1) c3)).from W0.heap.size), (ke A _ hrA.out HX.out).setOther' _ _ (fun a' ha' => by have := hA2 a' ha'; simp only; omega), .slice A3 (j + 1) c3, ps ++ [(A, c)], q1.set 0 _, ?_, ?_, ?_, ?_, b3.setCell (by simp only; omega) _, by simp; omega⟩
  ·rw [htk, scl_snoc _ _ H3.out.1, List.length_append, hlj.out, hn.out]
   refine o3.kept (grownBy_setCell' w3 w.heap.size _) ?_
   cases A3 with
   | none => exact .inl rfl
   | some a3 => refine .inr fun e => ?_; have := (own3lt a3.block rfl).1; simp [Value.ownBlock] at e; omega
  ·rw [htk]
   refine LvAt.snoc (LvAt.keep H3.out fun p hp xs h => (ke p.1 xs h fun a ha => (H4.out p hp a ha).1).setOther' _ _ (fun a' ha' => by have := (H4.out p hp a' ha').2; simp only; omega)) ((ke A _ hrA.out HX.out).setOther' _ _ (fun a' ha' => by have := hA2 a' ha'; simp only; omega)) (by rw [hn.out]; exact hxc)
  ·have hfresh : ∀ A' y, All32 y → 0 < y.length → Rd W A' (hcl y) → (∀ a, A' = some a → (Value.slice Ao j co).ownBlock ≠ some a.block) → ∀ a, A' = some a → (Value.slice A3 (j + 1) c3).ownBlock ≠ some a.block := by
    intro A' y hy h0 h hn' a ha e'
    have := blt A' y hy h0 h a ha
    rcases ob3 with h1 | h1
    ·exact hn' a ha (h1.symm.trans e')
    ·rw [h1] at e'; injection e' with e'; omega
   intro p hp a ha
   rcases List.mem_append.1 hp with hp | hp
   ·obtain ⟨i, hi⟩ := List.mem_iff_getElem?.1 hp
    have hil : i < T.length := by rw [← H3.out.1]; exact (List.getElem?_eq_some_iff.1 hi).1
    have hy := List.getElem?_eq_getElem hil
    have hmem : ∀ y ∈ T, y ∈ mLv l := fun y hy => List.mem_of_mem_take (by rw [hT.out]; exact hy)
    have hym := mLv_mem l h32 T[i] (hmem _ (List.getElem_mem hil))
    exact ⟨hfresh p.1 _ hym.1 hym.2.1 (H3.out.2 i p _ hi hy).1 (fun a ha => (H4.out p hp a ha).1) a ha, (H4.out p hp a ha).2⟩
   ·obtain rfl := List.mem_singleton.1 hp
    exact ⟨hfresh A _ hx32 hx0 hrA.out HX.out a ha, hA2 a ha⟩
  ·intro k hk; have := (own3lt k hk).2; simp; omega
 case done =>
  rintro D W hD ⟨v, ps, i1, i2, i3, i4, _, i6, _⟩ hK
  rw [List.take_of_length_le (Nat.le_refl _)] at i2 i3
  have hc := i1.cell 0 _ rfl
  obtain ⟨Ao, co, rfl, hco, _⟩ := own_form i2
  obtain ⟨q, hq⟩ : ∃ q, (mLv l).length = q := ⟨_, rfl⟩
  rw [hq] at i2 hc i4
  replace hq := Lib.hid hq
  have H3 := Lib.hid i3
  have H4 := Lib.hid i4
  clear i3 i4
  go_wp2
  refine ⟨by simp, .inl ⟨_, _, rfl, run_takeDeferred hK, ?_⟩⟩
  refine ⟨_, results_tmp rfl _ _ _, .slice Ao q co, ps, rfl, ?_, H3.out.keep fun p _ xs h => h.grown (grownBy_putObj' W D (.deferred none)) (fun r e => by cases e; exact ⟨_, hK, rfl⟩), fun p hp a ha => (H4.out p hp a ha).1, i6.grown (grownBy_putObj' W D (.deferred none)) i6.size (fun k e => by cases e; omega)⟩
  rw [hq.out]
  have o1 := ownsRow_putObj i2 (.deferred none) hK rfl
  refine ⟨o1.1, o1.2.imp id ?_⟩
  rintro ⟨g, cap, cur, e1, e2, e3⟩
  exact ⟨g, cap, cur, e1, by omega, e3⟩
end Go.Proofs.YtobjgebojhjhnaaDoor
