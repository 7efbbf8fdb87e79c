import Derived.Test.YtobjgebojhjhnaaDoorQr20
namespace Go.Proofs.YtobjgebojhjhnaaDoor
open Go.RowKit
attribute [local go_sem high] slB_lh slB_l slB_h
def orBit (x : UInt8) (j : Nat) : UInt8 := UInt8.ofNat (x.toNat ||| 2 ^ j)
set_option maxRecDepth 100000 in
theorem or_bit_fin : ∀ (v : Fin 256) (j : Fin 8), bits .or .u8 (v.val : Int) (IntKind.u8.wrap (2 ^ j.val)) = ((v.val ||| 2 ^ j.val : Nat) : Int) ∧ v.val ||| 2 ^ j.val < 256 := by decide +kernel
theorem orBit_nat (x : UInt8) (j : Nat) (hj : j < 8) : (orBit x j).toNat = x.toNat ||| 2 ^ j := by
 have := (or_bit_fin ⟨x.toNat, Cm.u8_lt x⟩ ⟨j, hj⟩).2
 unfold orBit
 exact Cm.u8_ofNat _ this
theorem or_bit (x : UInt8) (j : Nat) (hj : j < 8) : bits .or .u8 (x.toNat : Int) (IntKind.u8.wrap (2 ^ j)) = ((orBit x j).toNat : Int) := by
 rw [orBit_nat x j hj]
 exact (or_bit_fin ⟨x.toNat, Cm.u8_lt x⟩ ⟨j, hj⟩).1
def pFlP (fl : List UInt8) (k : Nat) : List UInt8 := if k % 8 = 0 then fl ++ [0] else fl
def pFlS (fl : List UInt8) (k : Nat) (d : Bool) : List UInt8 := if d then (pFlP fl k).set (k / 8) (orBit ((pFlP fl k).getD (k / 8) 0) (k % 8)) else pFlP fl k
def pFlA : List Bool → Nat → List UInt8 → List UInt8
 | [], _, fl => fl
 | d :: ds, k, fl => pFlA ds (k + 1) (pFlS fl k d)
def pFlags (ds : List Bool) : List UInt8 := pFlA ds 0 []
theorem pFlA_snoc (d : Bool) : ∀ (ds : List Bool) (k : Nat) (fl : List UInt8), pFlA (ds ++ [d]) k fl = pFlS (pFlA ds k fl) (k + ds.length) d
 | [], k, fl => by rw [List.nil_append, pFlA, pFlA, pFlA, List.length_nil, Nat.add_zero]
 | e :: ds, k, fl => by rw [List.cons_append, pFlA, pFlA, pFlA_snoc d ds (k + 1), List.length_cons, show k + 1 + ds.length = k + (ds.length + 1) by omega]
theorem pFlags_snoc (ds : List Bool) (d : Bool) : pFlags (ds ++ [d]) = pFlS (pFlags ds) ds.length d := by
 unfold pFlags
 rw [pFlA_snoc, Nat.zero_add]
theorem pFlP_length {fl : List UInt8} {k : Nat} (h : fl.length = (k + 7) / 8) : (pFlP fl k).length = (k + 1 + 7) / 8 := by
 unfold pFlP
 split
 ·rw [List.length_append, h]; simp; omega
 ·rw [h]; omega
theorem pFlS_length {fl : List UInt8} {k : Nat} (d : Bool) (h : fl.length = (k + 7) / 8) : (pFlS fl k d).length = (k + 1 + 7) / 8 := by
 unfold pFlS
 split
 ·rw [List.length_set]; exact pFlP_length h
 ·exact pFlP_length h
theorem pFlA_length : ∀ (ds : List Bool) (k : Nat) (fl : List UInt8), fl.length = (k + 7) / 8 → (pFlA ds k fl).length = (k + ds.length + 7) / 8
 | [], k, fl, h => by rw [pFlA, h]; rfl
 | d :: ds, k, fl, h => by rw [pFlA, pFlA_length ds (k + 1) _ (pFlS_length d h), List.length_cons, show k + 1 + ds.length = k + (ds.length + 1) by omega]
theorem pFlags_length (ds : List Bool) : (pFlags ds).length = (ds.length + 7) / 8 := by
 have := pFlA_length ds 0 [] rfl
 rwa [Nat.zero_add] at this
theorem TKeep.ofBelow {T : TypeId} {w w' : World} (h : Below w.heap.size w w') : TKeep T w w' := ⟨h.os, h.tape, h.output, h.size, fun k _ _ e => h.block k (Array.getElem?_eq_some_iff.1 e).1⟩
theorem TKeep.trans {T : TypeId} {a b c : World} (h : TKeep T a b) (k : TKeep T b c) : TKeep T a c :=
 ⟨k.os.trans h.os, k.tape.trans h.tape, k.output.trans h.output, Nat.le_trans h.size k.size, fun i cs fz e => (k.block i cs fz ((h.block i cs fz e).trans e)).trans (h.block i cs fz e)⟩
theorem TKeep.ofFr {T t : TypeId} {w w' : World} {g : Nat} {l : List Value} (ha : Av w g t l) (ht : t ≠ T) (h : Fr (fun j => j = g) w w') : TKeep T w w' :=
 ⟨h.os, h.tape, h.output, h.size, fun k cs fz e => h.block k (Array.getElem?_eq_some_iff.1 e).1 fun hk => by
  subst hk
  unfold Av at ha
  rw [ha] at e
  injection Option.some.inj e with _ h2
  exact ht h2⟩
theorem TKeep.ofGrown {T t : TypeId} {w w' : World} {B size n : Nat} {v : Value} {xs : List Value} (ho : w.ownsRow B t size v n xs) (ht : t ≠ T) (h : w.grownBy w' v.ownBlock) : TKeep T w w' :=
 ⟨h.os, h.tape, h.output, h.size, fun k cs fz e => h.block k (Array.getElem?_eq_some_iff.1 e).1 fun e2 => by
  rcases ho.2 with ⟨h1, _⟩ | ⟨g, cap, cur, e1, e2', e3, _⟩
  ·rw [h1] at e2; simp [Value.ownBlock] at e2
  ·have : g = k := by rw [e1] at e2; simpa [Value.ownBlock] using e2.symm
   subst this
   rw [e3] at e
   injection Option.some.inj e with _ h2
   exact ht h2⟩
def pHs (ls : List (List (List UInt8))) (s : List PV) : List (List UInt8) := (s.filter PV.told).map fun x => (ls.getD x.h []).getD x.i []
theorem pHs_snoc (ls : List (List (List UInt8))) (s : List PV) (x : PV) : pHs ls (s ++ [x]) = pHs ls s ++ if x.told then [(ls.getD x.h []).getD x.i []] else [] := by
 unfold pHs
 rw [List.filter_append, List.map_append]
 congr 1
 cases h : x.told <;> simp [h]
def BdI (w1 : World) (ls : List (List (List UInt8))) (D T tot : Nat) (s : List PV) (w : World) : Prop :=
 Below w1.heap.size w1 w ∧ ∃ vh vf, Av w D 3 [.int .i64 (s.length : Int)] ∧ Av w T 53 [.int .u32 (tot : Int), vh, vf] ∧ w.ownsRow w1.heap.size 30 32 vh (pHs ls s).length (hcl (pHs ls s)) ∧ w.ownsRow w1.heap.size 5 1 vf (pFlags (s.map PV.d)).length ((pFlags (s.map PV.d)).map bv)
theorem infoHs32 : (Tryd.prog.info? 30).map (fun i => (i.size, i.bytes)) = some (32, 32) := by kernel_rfl
theorem zeroHs32 : (Tryd.prog.info? 30).map (fun i => (i.zero.map (·.cells.size))) = some (some 32) := by kernel_rfl
theorem infoU81 : (Tryd.prog.info? 5).map (fun i => (i.size, i.bytes)) = some (1, 1) := by kernel_rfl
theorem zeroU81 : (Tryd.prog.info? 5).map (fun i => (i.zero.map (·.cells.size))) = some (some 1) := by kernel_rfl
set_option maxRecDepth 100000 in
set_option maxHeartbeats 16000000 in
theorem PBuild1 (ls : List (List (List UInt8))) (ps : List (Option Addr × Nat)) (w1 : World) (D T L : Nat) (Al : Option Addr) (nl cl tot : Nat) (hps : LvAt w1 ps ls) (hAl : Rd w1 Al (scl ps ls)) (hnl : ls.length = nl) (aL : Av w1 L 147 [.slice Al nl cl]) (h32 : ∀ l ∈ ls, All32 l)
  (hD : w1.heap.size ≤ D) (hT : w1.heap.size ≤ T) (s : List PV) (hs : s.length ≤ 100000) (x : PV) (hx : x.told = true → ∃ l y, ls[x.h]? = some l ∧ l[x.i]? = some y) (w : World) (hI : BdI w1 ls D T tot s w) :
  Calls Tryd.prog 56 #[.agg (pnc (x.h : Int) (x.i : Int)).toArray, .bool x.d, .bool x.told, .pointer (some ⟨D, 0, none⟩), .pointer (some ⟨T, 0, none⟩), .pointer (some ⟨L, 0, none⟩)] w fun e w' => (∃ r, e = .returned r) ∧ BdI w1 ls D T tot (s ++ [x]) w' ∧ TKeep 151 w w' := by
 obtain ⟨b0, vh, vf, aD, aT, oh, of⟩ := hI
 have hxs := pHs_snoc ls s x
 obtain ⟨xh, xi, d⟩ := x
 obtain ⟨fl, hfl⟩ : ∃ fl, fl = pFlags (s.map PV.d) := ⟨_, rfl⟩
 obtain ⟨k, hk⟩ : ∃ k, k = s.length := ⟨_, rfl⟩
 obtain ⟨hs0, hhs⟩ : ∃ hs0, hs0 = pHs ls s := ⟨_, rfl⟩
 have hfl2 : pFlags ((s ++ [(⟨xh, xi, d⟩ : PV)]).map PV.d) = pFlS fl k d := by
  rw [List.map_append, hfl, hk]
  have := pFlags_snoc (s.map PV.d) d
  rw [List.length_map] at this
  exact this
 have hfll : fl.length = (k + 7) / 8 := by rw [hfl, hk, pFlags_length, List.length_map]
 have hsl2 : (s ++ [(⟨xh, xi, d⟩ : PV)]).length = k + 1 := by rw [List.length_append, ← hk]; rfl
 rw [← hk] at hs aD
 rw [← hfl] at of
 rw [← hhs] at oh hxs
 have hhl : hs0.length ≤ k := by
  rw [hhs, hk, pHs, List.length_map]
  exact List.length_filter_le _ _
 obtain ⟨t, ht⟩ : ∃ t, t = (⟨xh, xi, d⟩ : PV).told := ⟨_, rfl⟩
 dsimp only at hx hxs ⊢
 rw [← ht] at hx hxs ⊢
 replace ht := Lib.hid ht
 obtain ⟨nf, hnf⟩ : ∃ nf, nf = fl.length := ⟨_, rfl⟩
 rw [← hnf] at of
 obtain ⟨nh, hnh⟩ : ∃ nh, nh = hs0.length := ⟨_, rfl⟩
 rw [← hnh] at oh hhl
 have hnfk : nf = (k + 7) / 8 := by rw [hnf, hfll]
 obtain ⟨Ah, ch, rfl, hch, _⟩ := own_form oh
 obtain ⟨Af, cf, rfl, hcf, _⟩ := own_form of
 obtain ⟨W, hW⟩ : ∃ W, W = w.alloc (.cells (pnc (xh : Int) (xi : Int)).toArray 151) := ⟨_, rfl⟩
 have bW : Below w.heap.size w W := by rw [hW]; exact (Below.refl _ _).alloc (Nat.le_refl _) _
 have aX : Av W w.heap.size 151 (pnc (xh : Int) (xi : Int)) := by rw [hW]; exact Av.new _ _ _
 have k1 : TKeep 151 w W := TKeep.ofBelow bW
 have aD1 := aD.below bW
 have aT1 := aT.below bW
 have oh1 := own_below oh bW
 have of1 := own_below of bW
 have b1 := b0.trans (bW.mono b0.size)
 obtain ⟨X, hX⟩ : ∃ X, X = w.heap.size := ⟨_, rfl⟩
 rw [← hX] at aX
 clear aD aT oh of b0 bW
 obtain ⟨q, hq⟩ : ∃ q, q = k / 8 := ⟨_, rfl⟩
 obtain ⟨sf, hsf⟩ : ∃ sf, sf = k % 8 := ⟨_, rfl⟩
 have e1 : (k : Int) / 8 = (q : Int) := by omega
 have e2 : (k : Int) % 8 = (sf : Int) := by omega
 have sf0 : (0 : Int) ≤ (sf : Int) := by omega
 have wq : IntKind.i64.wrap (q : Int) = (q : Int) := by rw [IntKind.wrap_i64]; omega
 have ws : (k : Int).tmod 8 = (sf : Int) := by rw [Int.tmod_eq_emod_of_nonneg (by omega)]; exact e2
 replace wq := Lib.hid wq
 replace ws := Lib.hid ws
 have sf8 : sf < 8 := by omega
 have cD := aD1.cell 0 _ rfl
 have cT2 := aT1.cell 2 _ rfl
 replace hW := Lib.hid hW
 replace hX := Lib.hid hX
 replace hq := Lib.hid hq
 replace hsf := Lib.hid hsf
 replace hfl := Lib.hid hfl
 replace hfl2 := Lib.hid hfl2
 replace hnfk := Lib.hid hnfk
 replace hnf := Lib.hid hnf
 replace hnh := Lib.hid hnh
 replace hhs := Lib.hid hhs
 replace hk := Lib.hid hk
 replace hfll := Lib.hid hfll
 replace hsl2 := Lib.hid hsl2
 replace hxs := Lib.hid hxs
 replace hx := Lib.hid hx
 replace h32 := Lib.hid h32
 replace hnl := Lib.hid hnl
 go_enter Tryd.func56, Tryd.ntmps56
 go_upto_region 1 with fail
 rw [← hW.out, ← hX.out]
 by_cases h8 : sf = 0
 ·have t8 : ((sf : Int) == 0) = true := by simp; omega
  replace h8 := Lib.hid h8
  have bal := (Below.refl W.heap.size W).alloc (Nat.le_refl _) (Obj.cells #[Value.int .u8 0] 5)
  have ofa := own_below of1 bal
  have oha := own_below oh1 bal
  have aDa := aD1.below bal
  have aTa := aT1.below bal
  have aXa := aX.below bal
  have ba := b1.trans (bal.mono b1.size)
  have ka := k1.trans (TKeep.ofBelow (T := 151) bal)
  have hBa := Lib.hid ba.size
  clear bal aX aD1 oh1 b1 k1
  go_upto_region 3 with (at_builtin; refine wpList_appE Tryd.underlying33 infoU81 zeroU81 (by decide) ofa hBa.out [Value.int .u8 0] 1 1 (Av.rd (t := 5) (heap_alloc_new _ _)) rfl (bv_one [0]) (by have := hnfk.out; omega) (by have := hnfk.out; omega) rfl (.tmp 13) (.tmp 14) rfl rfl rfl ?_; intro v2 w2 of2 gr2 ob2; obtain ⟨A2, c2, rfl, hc2, _⟩ := own_form of2; have aT2 := (Fr.of_grown gr2).av aTa (fun e => own_ne ofa aTa (by decide) e.symm); have cT := aT2.cell 2 _ rfl; have fT := frozen_of_row _ _ 2 _ _ aT2)
  have f2 := Fr.of_grown gr2
  have aD2 := f2.av aDa (fun e => own_ne ofa aDa (by decide) e.symm)
  have aX2 := f2.av aXa (fun e => own_ne ofa aXa (by decide) e.symm)
  have oh2 := own_fr oha f2 (fun k e q => own_ne2 ofa oha (by decide) k e q.symm)
  have b2 := own_app ba ofa gr2 hBa.out
  have k2 := ka.trans (TKeep.ofGrown (T := 151) ofa (by decide) gr2)
  obtain ⟨w3, hw3⟩ : ∃ w3, w3 = w2.setCell ⟨T, 2, none⟩ (.slice A2 (nf + 1) c2) := ⟨_, rfl⟩
  have f3 := Fr.setCell w2 ⟨T, 2, none⟩ (.slice A2 (nf + 1) c2)
  have aT3 := aT2.set 2 (.slice A2 (nf + 1) c2)
  have hTD := Av.ne aT2 aD2 (by decide)
  have hTX := Av.ne aT2 aX2 (by decide)
  have noh := own_ne oh2 aT2 (by decide)
  have nof := own_ne of2 aT2 (by decide)
  rw [← hw3] at f3 aT3 ⊢
  have aD3 := f3.av aD2 (Ne.symm hTD)
  have aX3 := f3.av aX2 (Ne.symm hTX)
  have oh3 := own_fr oh2 f3 (fun k e q => noh (by rw [e, q]))
  have of3 := own_fr of2 f3 (fun k e q => nof (by rw [e, q]))
  have b3 := b2.trans (f3.below (fun k e => by rw [e]; exact hT) b2.size)
  have k3 := k2.trans (TKeep.ofFr (T := 151) aT2 (by decide) f3)
  obtain ⟨f1l, hf1⟩ : ∃ f1l, f1l = fl ++ [0] := ⟨_, rfl⟩
  have of4 : w3.ownsRow w1.heap.size 5 1 (.slice A2 (nf + 1) c2) (nf + 1) (f1l.map bv) := by rw [hf1, List.map_append]; exact of3
  have hP : f1l = pFlP fl k := by rw [hf1, pFlP, if_pos (by have := hsf.out; have := h8.out; omega)]
  have hf1n : f1l.length = nf + 1 := by rw [hf1, hnf.out, List.length_append]; rfl
  have hqn : q < nf + 1 := by have := hnfk.out; have := hq.out; have := hsf.out; have := h8.out; omega
  have hnb : nf + 1 ≤ 20000 := by have := hnfk.out; omega
  replace hw3 := Lib.hid hw3
  replace hf1 := Lib.hid hf1
  clear f2 f3 hTD hTX noh nof of2 of3 oh2 aT2 aD2 aX2 b2 k2 gr2 ob2 cT fT ofa oha aDa aTa aXa ba ka hBa t8 cD cT2
  cases d with
  | false =>
   have of5 := of4
   have oh5 := oh3
   have aD5 := aD3
   have aT5 := aT3
   have aX5 := aX3
   have b5 := b3
   have k5 := k3
   have hfz : f1l = pFlS fl k false := hP
   have cD5 := aD5.cell 0 _ rfl
   have fD5 := frozen_of_row _ _ 0 _ _ aD5
   obtain ⟨w6, hw6⟩ : ∃ w6, w6 = w3.setCell ⟨D, 0, none⟩ (.int .i64 ((k : Int) + 1)) := ⟨_, rfl⟩
   have f6 := Fr.setCell w3 ⟨D, 0, none⟩ (.int .i64 ((k : Int) + 1))
   have aD6 := aD5.set 0 (.int .i64 ((k : Int) + 1))
   rw [← hw6] at f6 aD6
   have hTD := Av.ne aT5 aD5 (by decide)
   have hXD := Av.ne aX5 aD5 (by decide)
   have noh := own_ne oh5 aD5 (by decide)
   have nof := own_ne of5 aD5 (by decide)
   have aT6 := f6.av aT5 hTD
   have aX6 := f6.av aX5 hXD
   have oh6 := own_fr oh5 f6 (fun k e q => noh (by rw [e, q]))
   have of6 := own_fr of5 f6 (fun k e q => nof (by rw [e, q]))
   have b6 := b5.trans (f6.below (fun k e => by rw [e]; exact hD) b5.size)
   have k6 := k5.trans (TKeep.ofFr (T := 151) aD5 (by decide) f6)
   have hfn : f1l.length = (nf + 1) := by simpa using hf1n
   have hfz2 : pFlags ((s ++ [(⟨xh, xi, false⟩ : PV)]).map PV.d) = f1l := hfl2.out.trans hfz.symm
   replace hfz2 := Lib.hid hfz2
   replace hfn := Lib.hid hfn
   replace hw6 := Lib.hid hw6
   clear f6 hTD hXD noh nof aT5 aX5 oh5 of5 b5 k5 hfz
   cases t with
   | false =>
    go_wp2
    rw [← hw6.out]
    have hh2 : pHs ls (s ++ [⟨xh, xi, false⟩]) = hs0 := by rw [hxs.out]; simp
    refine bodyPost_endN rfl rfl ⟨⟨_, rfl⟩, ⟨b6, .slice Ah nh ch, .slice A2 (nf + 1) c2, ?_, aT6, ?_, ?_⟩, k6⟩
    ·rw [hsl2.out]; exact aD6
    ·rw [hh2, ← hnh.out]; exact oh6
    ·rw [hfz2.out, hfn.out]; exact of6
   | true =>
    obtain ⟨l, y, hl, hy⟩ := hx.out rfl
    have hxl := (List.getElem?_eq_some_iff.1 hl).1
    obtain ⟨p, hp⟩ : ∃ p, ps[xh]? = some p := ⟨_, List.getElem?_eq_getElem (by rw [hps.1]; exact hxl)⟩
    obtain ⟨rp, hpc⟩ := hps.2 xh p l hp hl
    have hl32 := h32.out l (List.mem_of_getElem? hl)
    obtain ⟨hyl, hye⟩ := List.getElem?_eq_some_iff.1 hy
    have hgd : l.getD xi [] = y := by rw [List.getD_eq_getElem?_getD, hy]; rfl
    have hy0 : y.length = 32 := hl32 y (by rw [← hye]; exact List.getElem_mem hyl)
    have hy32 : (y.map bv).length = 32 := by rw [List.length_map, hy0]
    have hyone := bv_one y
    obtain ⟨p1, pc⟩ := p
    dsimp only at rp hpc
    obtain ⟨pb, po, rfl⟩ := rp.someA (by intro e; have := congrArg List.length e; rw [hcl_length hl32] at this; simp at this; omega)
    have hsc := scl_get ps ls xh _ l hp hl
    dsimp only at hsc
    obtain ⟨ll, hll⟩ : ∃ ll, ll = l.length := ⟨_, rfl⟩
    rw [← hll] at hsc hpc
    obtain ⟨bb, off, rfl⟩ := hAl.someA (by intro e; rw [e] at hsc; cases hsc)
    have hcell : ∀ w', Rd w' (some ⟨bb, off, none⟩) (scl ps ls) → w'.cell? ⟨bb, off + xh, none⟩ = some (.slice (some ⟨pb, po, none⟩) ll pc) := by
     intro w' h
     rcases h with h | ⟨b', o', hA', hc⟩
     ·rw [h] at hsc; cases hsc
     ·cases hA'
      exact hc xh _ hsc
    have hrng : ∀ w', Rd w' (some ⟨pb, po, none⟩) (hcl l) → w'.rangeAt pb (po + xi * 32) (y.map bv) := fun w' h => by have := h.hash hl32 xi hyl; rwa [hgd] at this
    have rA6 := hAl.below b6
    have rP6 := rp.below b6
    have aL6 := aL.below b6
    have hh2 : pHs ls (s ++ [⟨xh, xi, false⟩]) = hs0 ++ [y] := by
     have e0 : ls.getD xh [] = l := by rw [List.getD_eq_getElem?_getD, hl]; rfl
     rw [hxs.out, if_pos rfl, e0, hgd]
    have hxnl : xh < nl := by rw [← hnl.out]; exact hxl
    have hxll : xi < ll := by rw [hll]; exact hyl
    replace hcell := Lib.hid hcell
    replace hrng := Lib.hid hrng
    replace hy32 := Lib.hid hy32
    replace hyone := Lib.hid hyone
    replace hh2 := Lib.hid hh2
    replace hgd := Lib.hid hgd
    replace hll := Lib.hid hll
    replace hl := Lib.hid hl
    replace hy := Lib.hid hy
    replace hye := Lib.hid hye
    replace hp := Lib.hid hp
    replace hsc := Lib.hid hsc
    have hx1 : (xh : Int) < (nl : Int) := by omega
    have hx2 : (xi : Int) < (ll : Int) := by omega
    clear rp
    go_upto_region 7 with fail
    rw [← hw6.out]
    clear cD5 fD5
    refine wp_region_relT 12 [(11, fun v w' => ∃ g, v = .slice (some ⟨g, 0, none⟩) 1 1 ∧ w6.heap.size ≤ g ∧ Av w' g 30 (y.map bv))] Ext (by kernel_rfl) (by kernel_rfl) (by kernel_rfl) (by kernel_rfl) (by kernel_rfl) Ext.refl Ext.trans (by
     intro p hp v w w' hR
     simp only [List.mem_singleton] at hp
     subst hp
     rintro ⟨g, e, h1, h2⟩
     exact ⟨g, e, h1, h2.below hR⟩) ?_
    refine ZP (fun w _ => by go_simp; first | done | rfl) ?_
    refine ZP (c := .slice Ah nh ch) (fun w hw => by have := (aT6.below hw.drew).cell 1 _ rfl; go_simp; first | done | rfl) ?_
    refine ZP (c := .slice (some ⟨bb, off, none⟩) nl cl) (fun w hw => by have := (aL6.below hw.drew).cell 0 _ rfl; go_simp; first | done | rfl) ?_
    refine ZP (fun w _ => by go_simp; first | done | rfl) ?_
    refine ZP (c := .int .i64 (xh : Int)) (fun w hw => by have := (aX6.below hw.drew).cell 0 _ rfl; go_simp; first | done | rfl) ?_
    refine ZP (c := .pointer (some ⟨bb, off + xh, none⟩)) (fun w _ => by go_simp; first | done | rfl) ?_
    refine ZP (c := .slice (some ⟨pb, po, none⟩) ll pc) (fun w hw => by have := hcell.out _ (rA6.below hw.drew); go_simp; first | done | rfl) ?_
    refine ZP (fun w _ => by go_simp; first | done | rfl) ?_
    refine ZP (c := .int .i64 (xi : Int)) (fun w hw => by have := (aX6.below hw.drew).cell 1 _ rfl; go_simp; first | done | rfl) ?_
    refine ZP (c := .pointer (some ⟨pb, po + xi * 32, none⟩)) (fun w _ => by go_simp; first | done | rfl) ?_
    refine ZP (c := .agg (hcs y)) (fun w hw => exec_load_mid _ _ rfl pb (po + xi * 32) rfl (y.map bv) _ (hrng.out _ (rP6.below hw.drew)) Tryd.underlying30 rfl (by rw [hy32.out]; kernel_rfl)) ?_
    refine relWord _ rfl (fun w hw => fill_none rfl (relOp_yes rfl ?_)) ?_
    ·rw [exec_build1 Tryd.underlying23 infoHs32 zeroHs32 (by decide) (by decide) _ (y.map bv) hy32.out _ rfl rfl]
     exact ⟨(Below.refl _ _).alloc (Nat.le_refl _) _, _, rfl, hw.drew.size, heap_alloc_new _ _⟩
    refine relEnd fun w7 hw7 => fill_take rfl rfl fun v hv => fill_end ?_
    obtain ⟨gy, rfl, hgy, agy⟩ := hv
    simp only [List.drop_succ_cons, List.drop_zero, List.set_cons_succ, List.set_cons_zero]
    have bd0 : Below w6.heap.size w6 w7 := hw7.drew
    have bd := bd0
    have oha := own_below oh6 bd
    have ofa := own_below of6 bd
    have aDa := aD6.below bd
    have aTa := aT6.below bd
    have ba := b6.trans (bd.mono b6.size)
    have ka := k6.trans (TKeep.ofBelow (T := 151) bd)
    have hBa := Lib.hid ba.size
    have hnb2 : nh ≤ 100000 := Nat.le_trans hhl hs
    clear bd bd0 hw7 oh6 of6 aD6 aT6 aX6 b6 k6 rA6 rP6 aL6
    go_wp2_with ((at_builtin; refine wpList_appE Tryd.underlying23 infoHs32 zeroHs32 (by decide) oha hBa.out (y.map bv) 1 1 agy.rd (by rw [hy32.out]) hyone.out (by omega) (by omega) rfl (.tmp 33) (.tmp 43) rfl rfl rfl ?_; intro v8 w8 oh8 gr8 ob8; obtain ⟨A8, c8, rfl, hc8, _⟩ := own_form oh8; have aT8 := (Fr.of_grown gr8).av aTa (fun e => own_ne oha aTa (by decide) e.symm); have cT1 := aT8.cell 1 _ rfl; have fT1 := frozen_of_row _ _ 1 _ _ aT8))
    have f8 := Fr.of_grown gr8
    have aD8 := f8.av aDa (fun e => own_ne oha aDa (by decide) e.symm)
    have of8 := own_fr ofa f8 (fun k e q => own_ne2 oha ofa (by decide) k e q.symm)
    have b8 := own_app ba oha gr8 hBa.out
    have k8 := ka.trans (TKeep.ofGrown (T := 151) oha (by decide) gr8)
    have f9 := Fr.setCell w8 ⟨T, 1, none⟩ (.slice A8 (nh + 1) c8)
    have aT9 := aT8.set 1 (.slice A8 (nh + 1) c8)
    have hTD := Av.ne aT8 aD8 (by decide)
    have noh := own_ne oh8 aT8 (by decide)
    have nof := own_ne of8 aT8 (by decide)
    refine bodyPost_endN rfl rfl ⟨⟨_, rfl⟩, ⟨b8.trans (f9.below (fun k e => by rw [e]; exact hT) b8.size), .slice A8 (nh + 1) c8, .slice A2 (nf + 1) c2, ?_, aT9, ?_, ?_⟩, k8.trans (TKeep.ofFr (T := 151) aT8 (by decide) f9)⟩
    ·rw [hsl2.out]; exact f9.av aD8 (Ne.symm hTD)
    ·have e1 : (hs0 ++ [y]).length = nh + 1 := by rw [List.length_append, ← hnh.out]; rfl
     have e2 : hcl (hs0 ++ [y]) = hcl hs0 ++ y.map bv := by simp [hcl]
     rw [hh2.out, e1, e2]
     exact own_fr oh8 f9 (fun k e q => noh (by rw [e, q]))
    ·rw [hfz2.out, hfn.out]; exact own_fr of8 f9 (fun k e q => nof (by rw [e, q]))
  | true =>
   obtain ⟨g, cc, rest, hcc, hBg, hc1, hc1m, avg, hlg⟩ := own_open of4 (by omega)
   injection hcc with hA hn hc
   subst hA hc
   obtain ⟨x, hx0⟩ : ∃ x, x = f1l.getD q 0 := ⟨_, rfl⟩
   have hgx : f1l[q]? = some x := by rw [hx0, List.getD_eq_getElem?_getD, List.getElem?_eq_getElem (by rw [hf1n]; exact hqn)]; rfl
   have cq : (f1l.map bv ++ rest)[q]? = some (bv x) := by rw [List.getElem?_append_left (by rw [List.length_map, hf1n]; exact hqn), List.getElem?_map, hgx]; rfl
   have obit := Lib.hid (or_bit x sf sf8)
   have hgD := Av.ne avg aD3 (by decide)
   have hgT := Av.ne avg aT3 (by decide)
   have hgX := Av.ne avg aX3 (by decide)
   have hngh := own_ne oh3 avg (by decide)
   replace hgx := Lib.hid hgx
   replace hx0 := Lib.hid hx0
   have hqn1 : (q : Int) < ((nf + 1) : Int) := by omega
   replace hlg := Lib.hid hlg
   go_upto_region 4 with fail
   refine wp_region_relT 10 [] Ext (by kernel_rfl) (by kernel_rfl) (by kernel_rfl) (by kernel_rfl) (by kernel_rfl) Ext.refl Ext.trans (by intro p hp; cases hp) ?_
   refine ZP (fun w _ => by go_simp; first | done | rfl) ?_
   refine ZP (c := .slice (some ⟨g, 0, none⟩) (nf + 1) c2) (fun w hw => by have := (aT3.below hw.drew).cell 2 _ rfl; go_simp; first | done | rfl) ?_
   refine ZP (c := .int .i64 (k : Int)) (fun w hw => by have := (aD3.below hw.drew).cell 0 _ rfl; go_simp; first | done | rfl) ?_
   refine ZP (c := .int .i64 (q : Int)) (fun w hw => by have := wq.out; go_simp; first | done | rfl) ?_
   refine ZP (c := .pointer (some ⟨g, q, none⟩)) (fun w _ => by go_simp; first | done | rfl) ?_
   refine ZP (c := .int .u8 (x.toNat : Int)) (fun w hw => by have := (avg.below hw.drew).cell q _ cq; go_simp; first | done | rfl) ?_
   refine ZP (c := .int .i64 (k : Int)) (fun w hw => by have := (aD3.below hw.drew).cell 0 _ rfl; go_simp; first | done | rfl) ?_
   refine ZP (c := .int .i64 (sf : Int)) (fun w hw => by have := ws.out; go_simp; first | done | rfl) ?_
   refine ZP (c := .int .u8 (IntKind.u8.wrap (2 ^ sf))) (fun w _ => by go_simp; first | done | rfl) ?_
   refine ZP (c := .int .u8 ((orBit x sf).toNat : Int)) (fun w hw => by have := obit.out; go_simp; first | done | rfl) ?_
   refine relEnd fun w4 hw4 => fill_end ?_
   simp only [List.drop_succ_cons, List.drop_zero]
   have bd := hw4.drew
   have avg4 := avg.below bd
   have cg := avg4.cell q _ cq
   have fg := frozen_of_row _ _ q _ _ avg4
   have aD4 := aD3.below bd
   have aT4 := aT3.below bd
   have aX4 := aX3.below bd
   have oh4 := own_below oh3 bd
   have b4 := b3.trans (bd.mono b3.size)
   have k4 := k3.trans (TKeep.ofBelow (T := 151) bd)
   have f5 := Fr.setCell w4 ⟨g, q, none⟩ (.int .u8 ((orBit x sf).toNat : Int))
   have avg5 := avg4.set q (.int .u8 ((orBit x sf).toNat : Int))
   have hset : (f1l.map bv ++ rest).set q (.int .u8 ((orBit x sf).toNat : Int)) = (f1l.set q (orBit x sf)).map bv ++ rest := by
    rw [List.set_append_left _ _ (by rw [List.length_map, hf1n]; exact hqn), List.map_set, bv]
   rw [hset] at avg5
   obtain ⟨w5, hw5⟩ : ∃ w5, w5 = w4.setCell ⟨g, q, none⟩ (.int .u8 ((orBit x sf).toNat : Int)) := ⟨_, rfl⟩
   rw [← hw5] at f5 avg5
   have of5 : w5.ownsRow w1.heap.size 5 1 (.slice (some ⟨g, 0, none⟩) (nf + 1) c2) (nf + 1) ((f1l.set q (orBit x sf)).map bv) := own_close hBg hc1 hc1m avg5 (by have := hlg.out; simp only [List.length_append, List.length_map, List.length_set] at this ⊢; exact this) (by rw [List.length_map, List.length_set, hf1n, Nat.mul_one])
   have aD5 := f5.av aD4 (Ne.symm hgD)
   have aT5 := f5.av aT4 (Ne.symm hgT)
   have aX5 := f5.av aX4 (Ne.symm hgX)
   have oh5 := own_fr oh4 f5 (fun k e q => hngh (by rw [e, q]))
   have b5 := b4.trans (f5.below (fun k e => by rw [e]; exact hBg) b4.size)
   have k5 := k4.trans (TKeep.ofFr (T := 151) avg4 (by decide) f5)
   have hfz : f1l.set q (orBit x sf) = pFlS fl k true := by rw [pFlS, if_pos rfl, ← hP, hx0.out, hq.out, hsf.out]
   replace hset := Lib.hid hset
   replace hw5 := Lib.hid hw5
   go_upto_region 5 with fail
   rw [← hw5.out]
   have cD5 := aD5.cell 0 _ rfl
   have fD5 := frozen_of_row _ _ 0 _ _ aD5
   obtain ⟨w6, hw6⟩ : ∃ w6, w6 = w5.setCell ⟨D, 0, none⟩ (.int .i64 ((k : Int) + 1)) := ⟨_, rfl⟩
   have f6 := Fr.setCell w5 ⟨D, 0, none⟩ (.int .i64 ((k : Int) + 1))
   have aD6 := aD5.set 0 (.int .i64 ((k : Int) + 1))
   rw [← hw6] at f6 aD6
   have hTD := Av.ne aT5 aD5 (by decide)
   have hXD := Av.ne aX5 aD5 (by decide)
   have noh := own_ne oh5 aD5 (by decide)
   have nof := own_ne of5 aD5 (by decide)
   have aT6 := f6.av aT5 hTD
   have aX6 := f6.av aX5 hXD
   have oh6 := own_fr oh5 f6 (fun k e q => noh (by rw [e, q]))
   have of6 := own_fr of5 f6 (fun k e q => nof (by rw [e, q]))
   have b6 := b5.trans (f6.below (fun k e => by rw [e]; exact hD) b5.size)
   have k6 := k5.trans (TKeep.ofFr (T := 151) aD5 (by decide) f6)
   have hfn : (f1l.set q (orBit x sf)).length = (nf + 1) := by simpa using hf1n
   have hfz2 : pFlags ((s ++ [(⟨xh, xi, true⟩ : PV)]).map PV.d) = (f1l.set q (orBit x sf)) := hfl2.out.trans hfz.symm
   replace hfz2 := Lib.hid hfz2
   replace hfn := Lib.hid hfn
   replace hw6 := Lib.hid hw6
   clear f6 hTD hXD noh nof aT5 aX5 oh5 of5 b5 k5 hfz
   cases t with
   | false =>
    go_wp2
    rw [← hw6.out]
    have hh2 : pHs ls (s ++ [⟨xh, xi, true⟩]) = hs0 := by rw [hxs.out]; simp
    refine bodyPost_endN rfl rfl ⟨⟨_, rfl⟩, ⟨b6, .slice Ah nh ch, .slice (some ⟨g, 0, none⟩) (nf + 1) c2, ?_, aT6, ?_, ?_⟩, k6⟩
    ·rw [hsl2.out]; exact aD6
    ·rw [hh2, ← hnh.out]; exact oh6
    ·rw [hfz2.out, hfn.out]; exact of6
   | true =>
    obtain ⟨l, y, hl, hy⟩ := hx.out rfl
    have hxl := (List.getElem?_eq_some_iff.1 hl).1
    obtain ⟨p, hp⟩ : ∃ p, ps[xh]? = some p := ⟨_, List.getElem?_eq_getElem (by rw [hps.1]; exact hxl)⟩
    obtain ⟨rp, hpc⟩ := hps.2 xh p l hp hl
    have hl32 := h32.out l (List.mem_of_getElem? hl)
    obtain ⟨hyl, hye⟩ := List.getElem?_eq_some_iff.1 hy
    have hgd : l.getD xi [] = y := by rw [List.getD_eq_getElem?_getD, hy]; rfl
    have hy0 : y.length = 32 := hl32 y (by rw [← hye]; exact List.getElem_mem hyl)
    have hy32 : (y.map bv).length = 32 := by rw [List.length_map, hy0]
    have hyone := bv_one y
    obtain ⟨p1, pc⟩ := p
    dsimp only at rp hpc
    obtain ⟨pb, po, rfl⟩ := rp.someA (by intro e; have := congrArg List.length e; rw [hcl_length hl32] at this; simp at this; omega)
    have hsc := scl_get ps ls xh _ l hp hl
    dsimp only at hsc
    obtain ⟨ll, hll⟩ : ∃ ll, ll = l.length := ⟨_, rfl⟩
    rw [← hll] at hsc hpc
    obtain ⟨bb, off, rfl⟩ := hAl.someA (by intro e; rw [e] at hsc; cases hsc)
    have hcell : ∀ w', Rd w' (some ⟨bb, off, none⟩) (scl ps ls) → w'.cell? ⟨bb, off + xh, none⟩ = some (.slice (some ⟨pb, po, none⟩) ll pc) := by
     intro w' h
     rcases h with h | ⟨b', o', hA', hc⟩
     ·rw [h] at hsc; cases hsc
     ·cases hA'
      exact hc xh _ hsc
    have hrng : ∀ w', Rd w' (some ⟨pb, po, none⟩) (hcl l) → w'.rangeAt pb (po + xi * 32) (y.map bv) := fun w' h => by have := h.hash hl32 xi hyl; rwa [hgd] at this
    have rA6 := hAl.below b6
    have rP6 := rp.below b6
    have aL6 := aL.below b6
    have hh2 : pHs ls (s ++ [⟨xh, xi, true⟩]) = hs0 ++ [y] := by
     have e0 : ls.getD xh [] = l := by rw [List.getD_eq_getElem?_getD, hl]; rfl
     rw [hxs.out, if_pos rfl, e0, hgd]
    have hxnl : xh < nl := by rw [← hnl.out]; exact hxl
    have hxll : xi < ll := by rw [hll]; exact hyl
    replace hcell := Lib.hid hcell
    replace hrng := Lib.hid hrng
    replace hy32 := Lib.hid hy32
    replace hyone := Lib.hid hyone
    replace hh2 := Lib.hid hh2
    replace hgd := Lib.hid hgd
    replace hll := Lib.hid hll
    replace hl := Lib.hid hl
    replace hy := Lib.hid hy
    replace hye := Lib.hid hye
    replace hp := Lib.hid hp
    replace hsc := Lib.hid hsc
    have hx1 : (xh : Int) < (nl : Int) := by omega
    have hx2 : (xi : Int) < (ll : Int) := by omega
    clear rp
    go_upto_region 7 with fail
    rw [← hw6.out]
    clear cD5 fD5
    refine wp_region_relT 12 [(11, fun v w' => ∃ g, v = .slice (some ⟨g, 0, none⟩) 1 1 ∧ w6.heap.size ≤ g ∧ Av w' g 30 (y.map bv))] Ext (by kernel_rfl) (by kernel_rfl) (by kernel_rfl) (by kernel_rfl) (by kernel_rfl) Ext.refl Ext.trans (by
     intro p hp v w w' hR
     simp only [List.mem_singleton] at hp
     subst hp
     rintro ⟨g, e, h1, h2⟩
     exact ⟨g, e, h1, h2.below hR⟩) ?_
    refine ZP (fun w _ => by go_simp; first | done | rfl) ?_
    refine ZP (c := .slice Ah nh ch) (fun w hw => by have := (aT6.below hw.drew).cell 1 _ rfl; go_simp; first | done | rfl) ?_
    refine ZP (c := .slice (some ⟨bb, off, none⟩) nl cl) (fun w hw => by have := (aL6.below hw.drew).cell 0 _ rfl; go_simp; first | done | rfl) ?_
    refine ZP (fun w _ => by go_simp; first | done | rfl) ?_
    refine ZP (c := .int .i64 (xh : Int)) (fun w hw => by have := (aX6.below hw.drew).cell 0 _ rfl; go_simp; first | done | rfl) ?_
    refine ZP (c := .pointer (some ⟨bb, off + xh, none⟩)) (fun w _ => by go_simp; first | done | rfl) ?_
    refine ZP (c := .slice (some ⟨pb, po, none⟩) ll pc) (fun w hw => by have := hcell.out _ (rA6.below hw.drew); go_simp; first | done | rfl) ?_
    refine ZP (fun w _ => by go_simp; first | done | rfl) ?_
    refine ZP (c := .int .i64 (xi : Int)) (fun w hw => by have := (aX6.below hw.drew).cell 1 _ rfl; go_simp; first | done | rfl) ?_
    refine ZP (c := .pointer (some ⟨pb, po + xi * 32, none⟩)) (fun w _ => by go_simp; first | done | rfl) ?_
    refine ZP (c := .agg (hcs y)) (fun w hw => exec_load_mid _ _ rfl pb (po + xi * 32) rfl (y.map bv) _ (hrng.out _ (rP6.below hw.drew)) Tryd.underlying30 rfl (by rw [hy32.out]; kernel_rfl)) ?_
    refine relWord _ rfl (fun w hw => fill_none rfl (relOp_yes rfl ?_)) ?_
    ·rw [exec_build1 Tryd.underlying23 infoHs32 zeroHs32 (by decide) (by decide) _ (y.map bv) hy32.out _ rfl rfl]
     exact ⟨(Below.refl _ _).alloc (Nat.le_refl _) _, _, rfl, hw.drew.size, heap_alloc_new _ _⟩
    refine relEnd fun w7 hw7 => fill_take rfl rfl fun v hv => fill_end ?_
    obtain ⟨gy, rfl, hgy, agy⟩ := hv
    simp only [List.drop_succ_cons, List.drop_zero, List.set_cons_succ, List.set_cons_zero]
    have bd0 : Below w6.heap.size w6 w7 := hw7.drew
    have bd := bd0
    have oha := own_below oh6 bd
    have ofa := own_below of6 bd
    have aDa := aD6.below bd
    have aTa := aT6.below bd
    have ba := b6.trans (bd.mono b6.size)
    have ka := k6.trans (TKeep.ofBelow (T := 151) bd)
    have hBa := Lib.hid ba.size
    have hnb2 : nh ≤ 100000 := Nat.le_trans hhl hs
    clear bd bd0 hw7 oh6 of6 aD6 aT6 aX6 b6 k6 rA6 rP6 aL6
    go_wp2_with ((at_builtin; refine wpList_appE Tryd.underlying23 infoHs32 zeroHs32 (by decide) oha hBa.out (y.map bv) 1 1 agy.rd (by rw [hy32.out]) hyone.out (by omega) (by omega) rfl (.tmp 33) (.tmp 43) rfl rfl rfl ?_; intro v8 w8 oh8 gr8 ob8; obtain ⟨A8, c8, rfl, hc8, _⟩ := own_form oh8; have aT8 := (Fr.of_grown gr8).av aTa (fun e => own_ne oha aTa (by decide) e.symm); have cT1 := aT8.cell 1 _ rfl; have fT1 := frozen_of_row _ _ 1 _ _ aT8))
    have f8 := Fr.of_grown gr8
    have aD8 := f8.av aDa (fun e => own_ne oha aDa (by decide) e.symm)
    have of8 := own_fr ofa f8 (fun k e q => own_ne2 oha ofa (by decide) k e q.symm)
    have b8 := own_app ba oha gr8 hBa.out
    have k8 := ka.trans (TKeep.ofGrown (T := 151) oha (by decide) gr8)
    have f9 := Fr.setCell w8 ⟨T, 1, none⟩ (.slice A8 (nh + 1) c8)
    have aT9 := aT8.set 1 (.slice A8 (nh + 1) c8)
    have hTD := Av.ne aT8 aD8 (by decide)
    have noh := own_ne oh8 aT8 (by decide)
    have nof := own_ne of8 aT8 (by decide)
    refine bodyPost_endN rfl rfl ⟨⟨_, rfl⟩, ⟨b8.trans (f9.below (fun k e => by rw [e]; exact hT) b8.size), .slice A8 (nh + 1) c8, .slice (some ⟨g, 0, none⟩) (nf + 1) c2, ?_, aT9, ?_, ?_⟩, k8.trans (TKeep.ofFr (T := 151) aT8 (by decide) f9)⟩
    ·rw [hsl2.out]; exact f9.av aD8 (Ne.symm hTD)
    ·have e1 : (hs0 ++ [y]).length = nh + 1 := by rw [List.length_append, ← hnh.out]; rfl
     have e2 : hcl (hs0 ++ [y]) = hcl hs0 ++ y.map bv := by simp [hcl]
     rw [hh2.out, e1, e2]
     exact own_fr oh8 f9 (fun k e q => noh (by rw [e, q]))
    ·rw [hfz2.out, hfn.out]; exact own_fr of8 f9 (fun k e q => nof (by rw [e, q]))
 ·have t8 : ((sf : Int) == 0) = false := by simp; omega
  have h8' := Lib.hid h8
  clear h8
  have hP : fl = pFlP fl k := by rw [pFlP, if_neg (by have := hsf.out; have := h8'.out; omega)]
  have hqn : q < nf := by have := hnfk.out; have := hq.out; have := hsf.out; have := h8'.out; omega
  have hnb : nf ≤ 20000 := by have := hnfk.out; omega
  have hf1n : fl.length = nf := hnf.out.symm
  go_upto_region 3 with fail
  clear cD cT2
  cases d with
  | false =>
   have of5 := of1
   have oh5 := oh1
   have aD5 := aD1
   have aT5 := aT1
   have aX5 := aX
   have b5 := b1
   have k5 := k1
   have hfz : fl = pFlS fl k false := hP
   have cD5 := aD5.cell 0 _ rfl
   have fD5 := frozen_of_row _ _ 0 _ _ aD5
   obtain ⟨w6, hw6⟩ : ∃ w6, w6 = W.setCell ⟨D, 0, none⟩ (.int .i64 ((k : Int) + 1)) := ⟨_, rfl⟩
   have f6 := Fr.setCell W ⟨D, 0, none⟩ (.int .i64 ((k : Int) + 1))
   have aD6 := aD5.set 0 (.int .i64 ((k : Int) + 1))
   rw [← hw6] at f6 aD6
   have hTD := Av.ne aT5 aD5 (by decide)
   have hXD := Av.ne aX5 aD5 (by decide)
   have noh := own_ne oh5 aD5 (by decide)
   have nof := own_ne of5 aD5 (by decide)
   have aT6 := f6.av aT5 hTD
   have aX6 := f6.av aX5 hXD
   have oh6 := own_fr oh5 f6 (fun k e q => noh (by rw [e, q]))
   have of6 := own_fr of5 f6 (fun k e q => nof (by rw [e, q]))
   have b6 := b5.trans (f6.below (fun k e => by rw [e]; exact hD) b5.size)
   have k6 := k5.trans (TKeep.ofFr (T := 151) aD5 (by decide) f6)
   have hfn : fl.length = nf := by simpa using hf1n
   have hfz2 : pFlags ((s ++ [(⟨xh, xi, false⟩ : PV)]).map PV.d) = fl := hfl2.out.trans hfz.symm
   replace hfz2 := Lib.hid hfz2
   replace hfn := Lib.hid hfn
   replace hw6 := Lib.hid hw6
   clear f6 hTD hXD noh nof aT5 aX5 oh5 of5 b5 k5 hfz
   cases t with
   | false =>
    go_wp2
    rw [← hw6.out]
    have hh2 : pHs ls (s ++ [⟨xh, xi, false⟩]) = hs0 := by rw [hxs.out]; simp
    refine bodyPost_endN rfl rfl ⟨⟨_, rfl⟩, ⟨b6, .slice Ah nh ch, .slice Af nf cf, ?_, aT6, ?_, ?_⟩, k6⟩
    ·rw [hsl2.out]; exact aD6
    ·rw [hh2, ← hnh.out]; exact oh6
    ·rw [hfz2.out, hfn.out]; exact of6
   | true =>
    obtain ⟨l, y, hl, hy⟩ := hx.out rfl
    have hxl := (List.getElem?_eq_some_iff.1 hl).1
    obtain ⟨p, hp⟩ : ∃ p, ps[xh]? = some p := ⟨_, List.getElem?_eq_getElem (by rw [hps.1]; exact hxl)⟩
    obtain ⟨rp, hpc⟩ := hps.2 xh p l hp hl
    have hl32 := h32.out l (List.mem_of_getElem? hl)
    obtain ⟨hyl, hye⟩ := List.getElem?_eq_some_iff.1 hy
    have hgd : l.getD xi [] = y := by rw [List.getD_eq_getElem?_getD, hy]; rfl
    have hy0 : y.length = 32 := hl32 y (by rw [← hye]; exact List.getElem_mem hyl)
    have hy32 : (y.map bv).length = 32 := by rw [List.length_map, hy0]
    have hyone := bv_one y
    obtain ⟨p1, pc⟩ := p
    dsimp only at rp hpc
    obtain ⟨pb, po, rfl⟩ := rp.someA (by intro e; have := congrArg List.length e; rw [hcl_length hl32] at this; simp at this; omega)
    have hsc := scl_get ps ls xh _ l hp hl
    dsimp only at hsc
    obtain ⟨ll, hll⟩ : ∃ ll, ll = l.length := ⟨_, rfl⟩
    rw [← hll] at hsc hpc
    obtain ⟨bb, off, rfl⟩ := hAl.someA (by intro e; rw [e] at hsc; cases hsc)
    have hcell : ∀ w', Rd w' (some ⟨bb, off, none⟩) (scl ps ls) → w'.cell? ⟨bb, off + xh, none⟩ = some (.slice (some ⟨pb, po, none⟩) ll pc) := by
     intro w' h
     rcases h with h | ⟨b', o', hA', hc⟩
     ·rw [h] at hsc; cases hsc
     ·cases hA'
      exact hc xh _ hsc
    have hrng : ∀ w', Rd w' (some ⟨pb, po, none⟩) (hcl l) → w'.rangeAt pb (po + xi * 32) (y.map bv) := fun w' h => by have := h.hash hl32 xi hyl; rwa [hgd] at this
    have rA6 := hAl.below b6
    have rP6 := rp.below b6
    have aL6 := aL.below b6
    have hh2 : pHs ls (s ++ [⟨xh, xi, false⟩]) = hs0 ++ [y] := by
     have e0 : ls.getD xh [] = l := by rw [List.getD_eq_getElem?_getD, hl]; rfl
     rw [hxs.out, if_pos rfl, e0, hgd]
    have hxnl : xh < nl := by rw [← hnl.out]; exact hxl
    have hxll : xi < ll := by rw [hll]; exact hyl
    replace hcell := Lib.hid hcell
    replace hrng := Lib.hid hrng
    replace hy32 := Lib.hid hy32
    replace hyone := Lib.hid hyone
    replace hh2 := Lib.hid hh2
    replace hgd := Lib.hid hgd
    replace hll := Lib.hid hll
    replace hl := Lib.hid hl
    replace hy := Lib.hid hy
    replace hye := Lib.hid hye
    replace hp := Lib.hid hp
    replace hsc := Lib.hid hsc
    have hx1 : (xh : Int) < (nl : Int) := by omega
    have hx2 : (xi : Int) < (ll : Int) := by omega
    clear rp
    go_upto_region 7 with fail
    rw [← hw6.out]
    clear cD5 fD5
    refine wp_region_relT 12 [(11, fun v w' => ∃ g, v = .slice (some ⟨g, 0, none⟩) 1 1 ∧ w6.heap.size ≤ g ∧ Av w' g 30 (y.map bv))] Ext (by kernel_rfl) (by kernel_rfl) (by kernel_rfl) (by kernel_rfl) (by kernel_rfl) Ext.refl Ext.trans (by
     intro p hp v w w' hR
     simp only [List.mem_singleton] at hp
     subst hp
     rintro ⟨g, e, h1, h2⟩
     exact ⟨g, e, h1, h2.below hR⟩) ?_
    refine ZP (fun w _ => by go_simp; first | done | rfl) ?_
    refine ZP (c := .slice Ah nh ch) (fun w hw => by have := (aT6.below hw.drew).cell 1 _ rfl; go_simp; first | done | rfl) ?_
    refine ZP (c := .slice (some ⟨bb, off, none⟩) nl cl) (fun w hw => by have := (aL6.below hw.drew).cell 0 _ rfl; go_simp; first | done | rfl) ?_
    refine ZP (fun w _ => by go_simp; first | done | rfl) ?_
    refine ZP (c := .int .i64 (xh : Int)) (fun w hw => by have := (aX6.below hw.drew).cell 0 _ rfl; go_simp; first | done | rfl) ?_
    refine ZP (c := .pointer (some ⟨bb, off + xh, none⟩)) (fun w _ => by go_simp; first | done | rfl) ?_
    refine ZP (c := .slice (some ⟨pb, po, none⟩) ll pc) (fun w hw => by have := hcell.out _ (rA6.below hw.drew); go_simp; first | done | rfl) ?_
    refine ZP (fun w _ => by go_simp; first | done | rfl) ?_
    refine ZP (c := .int .i64 (xi : Int)) (fun w hw => by have := (aX6.below hw.drew).cell 1 _ rfl; go_simp; first | done | rfl) ?_
    refine ZP (c := .pointer (some ⟨pb, po + xi * 32, none⟩)) (fun w _ => by go_simp; first | done | rfl) ?_
    refine ZP (c := .agg (hcs y)) (fun w hw => exec_load_mid _ _ rfl pb (po + xi * 32) rfl (y.map bv) _ (hrng.out _ (rP6.below hw.drew)) Tryd.underlying30 rfl (by rw [hy32.out]; kernel_rfl)) ?_
    refine relWord _ rfl (fun w hw => fill_none rfl (relOp_yes rfl ?_)) ?_
    ·rw [exec_build1 Tryd.underlying23 infoHs32 zeroHs32 (by decide) (by decide) _ (y.map bv) hy32.out _ rfl rfl]
     exact ⟨(Below.refl _ _).alloc (Nat.le_refl _) _, _, rfl, hw.drew.size, heap_alloc_new _ _⟩
    refine relEnd fun w7 hw7 => fill_take rfl rfl fun v hv => fill_end ?_
    obtain ⟨gy, rfl, hgy, agy⟩ := hv
    simp only [List.drop_succ_cons, List.drop_zero, List.set_cons_succ, List.set_cons_zero]
    have bd0 : Below w6.heap.size w6 w7 := hw7.drew
    have bd := bd0
    have oha := own_below oh6 bd
    have ofa := own_below of6 bd
    have aDa := aD6.below bd
    have aTa := aT6.below bd
    have ba := b6.trans (bd.mono b6.size)
    have ka := k6.trans (TKeep.ofBelow (T := 151) bd)
    have hBa := Lib.hid ba.size
    have hnb2 : nh ≤ 100000 := Nat.le_trans hhl hs
    clear bd bd0 hw7 oh6 of6 aD6 aT6 aX6 b6 k6 rA6 rP6 aL6
    go_wp2_with ((at_builtin; refine wpList_appE Tryd.underlying23 infoHs32 zeroHs32 (by decide) oha hBa.out (y.map bv) 1 1 agy.rd (by rw [hy32.out]) hyone.out (by omega) (by omega) rfl (.tmp 33) (.tmp 43) rfl rfl rfl ?_; intro v8 w8 oh8 gr8 ob8; obtain ⟨A8, c8, rfl, hc8, _⟩ := own_form oh8; have aT8 := (Fr.of_grown gr8).av aTa (fun e => own_ne oha aTa (by decide) e.symm); have cT1 := aT8.cell 1 _ rfl; have fT1 := frozen_of_row _ _ 1 _ _ aT8))
    have f8 := Fr.of_grown gr8
    have aD8 := f8.av aDa (fun e => own_ne oha aDa (by decide) e.symm)
    have of8 := own_fr ofa f8 (fun k e q => own_ne2 oha ofa (by decide) k e q.symm)
    have b8 := own_app ba oha gr8 hBa.out
    have k8 := ka.trans (TKeep.ofGrown (T := 151) oha (by decide) gr8)
    have f9 := Fr.setCell w8 ⟨T, 1, none⟩ (.slice A8 (nh + 1) c8)
    have aT9 := aT8.set 1 (.slice A8 (nh + 1) c8)
    have hTD := Av.ne aT8 aD8 (by decide)
    have noh := own_ne oh8 aT8 (by decide)
    have nof := own_ne of8 aT8 (by decide)
    refine bodyPost_endN rfl rfl ⟨⟨_, rfl⟩, ⟨b8.trans (f9.below (fun k e => by rw [e]; exact hT) b8.size), .slice A8 (nh + 1) c8, .slice Af nf cf, ?_, aT9, ?_, ?_⟩, k8.trans (TKeep.ofFr (T := 151) aT8 (by decide) f9)⟩
    ·rw [hsl2.out]; exact f9.av aD8 (Ne.symm hTD)
    ·have e1 : (hs0 ++ [y]).length = nh + 1 := by rw [List.length_append, ← hnh.out]; rfl
     have e2 : hcl (hs0 ++ [y]) = hcl hs0 ++ y.map bv := by simp [hcl]
     rw [hh2.out, e1, e2]
     exact own_fr oh8 f9 (fun k e q => noh (by rw [e, q]))
    ·rw [hfz2.out, hfn.out]; exact own_fr of8 f9 (fun k e q => nof (by rw [e, q]))
  | true =>
   obtain ⟨g, cc, rest, hcc, hBg, hc1, hc1m, avg, hlg⟩ := own_open of1 (by omega)
   injection hcc with hA hn hc
   subst hA hc
   obtain ⟨x, hx0⟩ : ∃ x, x = fl.getD q 0 := ⟨_, rfl⟩
   have hgx : fl[q]? = some x := by rw [hx0, List.getD_eq_getElem?_getD, List.getElem?_eq_getElem (by rw [hf1n]; exact hqn)]; rfl
   have cq : (fl.map bv ++ rest)[q]? = some (bv x) := by rw [List.getElem?_append_left (by rw [List.length_map, hf1n]; exact hqn), List.getElem?_map, hgx]; rfl
   have obit := Lib.hid (or_bit x sf sf8)
   have hgD := Av.ne avg aD1 (by decide)
   have hgT := Av.ne avg aT1 (by decide)
   have hgX := Av.ne avg aX (by decide)
   have hngh := own_ne oh1 avg (by decide)
   replace hgx := Lib.hid hgx
   replace hx0 := Lib.hid hx0
   have hqn1 : (q : Int) < (nf : Int) := by omega
   replace hlg := Lib.hid hlg
   go_upto_region 4 with fail
   refine wp_region_relT 10 [] Ext (by kernel_rfl) (by kernel_rfl) (by kernel_rfl) (by kernel_rfl) (by kernel_rfl) Ext.refl Ext.trans (by intro p hp; cases hp) ?_
   refine ZP (fun w _ => by go_simp; first | done | rfl) ?_
   refine ZP (c := .slice (some ⟨g, 0, none⟩) nf cf) (fun w hw => by have := (aT1.below hw.drew).cell 2 _ rfl; go_simp; first | done | rfl) ?_
   refine ZP (c := .int .i64 (k : Int)) (fun w hw => by have := (aD1.below hw.drew).cell 0 _ rfl; go_simp; first | done | rfl) ?_
   refine ZP (c := .int .i64 (q : Int)) (fun w hw => by have := wq.out; go_simp; first | done | rfl) ?_
   refine ZP (c := .pointer (some ⟨g, q, none⟩)) (fun w _ => by go_simp; first | done | rfl) ?_
   refine ZP (c := .int .u8 (x.toNat : Int)) (fun w hw => by have := (avg.below hw.drew).cell q _ cq; go_simp; first | done | rfl) ?_
   refine ZP (c := .int .i64 (k : Int)) (fun w hw => by have := (aD1.below hw.drew).cell 0 _ rfl; go_simp; first | done | rfl) ?_
   refine ZP (c := .int .i64 (sf : Int)) (fun w hw => by have := ws.out; go_simp; first | done | rfl) ?_
   refine ZP (c := .int .u8 (IntKind.u8.wrap (2 ^ sf))) (fun w _ => by go_simp; first | done | rfl) ?_
   refine ZP (c := .int .u8 ((orBit x sf).toNat : Int)) (fun w hw => by have := obit.out; go_simp; first | done | rfl) ?_
   refine relEnd fun w4 hw4 => fill_end ?_
   simp only [List.drop_succ_cons, List.drop_zero]
   have bd := hw4.drew
   have avg4 := avg.below bd
   have cg := avg4.cell q _ cq
   have fg := frozen_of_row _ _ q _ _ avg4
   have aD4 := aD1.below bd
   have aT4 := aT1.below bd
   have aX4 := aX.below bd
   have oh4 := own_below oh1 bd
   have b4 := b1.trans (bd.mono b1.size)
   have k4 := k1.trans (TKeep.ofBelow (T := 151) bd)
   have f5 := Fr.setCell w4 ⟨g, q, none⟩ (.int .u8 ((orBit x sf).toNat : Int))
   have avg5 := avg4.set q (.int .u8 ((orBit x sf).toNat : Int))
   have hset : (fl.map bv ++ rest).set q (.int .u8 ((orBit x sf).toNat : Int)) = (fl.set q (orBit x sf)).map bv ++ rest := by
    rw [List.set_append_left _ _ (by rw [List.length_map, hf1n]; exact hqn), List.map_set, bv]
   rw [hset] at avg5
   obtain ⟨w5, hw5⟩ : ∃ w5, w5 = w4.setCell ⟨g, q, none⟩ (.int .u8 ((orBit x sf).toNat : Int)) := ⟨_, rfl⟩
   rw [← hw5] at f5 avg5
   have of5 : w5.ownsRow w1.heap.size 5 1 (.slice (some ⟨g, 0, none⟩) nf cf) nf ((fl.set q (orBit x sf)).map bv) := own_close hBg hc1 hc1m avg5 (by have := hlg.out; simp only [List.length_append, List.length_map, List.length_set] at this ⊢; exact this) (by rw [List.length_map, List.length_set, hf1n, Nat.mul_one])
   have aD5 := f5.av aD4 (Ne.symm hgD)
   have aT5 := f5.av aT4 (Ne.symm hgT)
   have aX5 := f5.av aX4 (Ne.symm hgX)
   have oh5 := own_fr oh4 f5 (fun k e q => hngh (by rw [e, q]))
   have b5 := b4.trans (f5.below (fun k e => by rw [e]; exact hBg) b4.size)
   have k5 := k4.trans (TKeep.ofFr (T := 151) avg4 (by decide) f5)
   have hfz : fl.set q (orBit x sf) = pFlS fl k true := by rw [pFlS, if_pos rfl, ← hP, hx0.out, hq.out, hsf.out]
   replace hset := Lib.hid hset
   replace hw5 := Lib.hid hw5
   go_upto_region 5 with fail
   rw [← hw5.out]
   have cD5 := aD5.cell 0 _ rfl
   have fD5 := frozen_of_row _ _ 0 _ _ aD5
   obtain ⟨w6, hw6⟩ : ∃ w6, w6 = w5.setCell ⟨D, 0, none⟩ (.int .i64 ((k : Int) + 1)) := ⟨_, rfl⟩
   have f6 := Fr.setCell w5 ⟨D, 0, none⟩ (.int .i64 ((k : Int) + 1))
   have aD6 := aD5.set 0 (.int .i64 ((k : Int) + 1))
   rw [← hw6] at f6 aD6
   have hTD := Av.ne aT5 aD5 (by decide)
   have hXD := Av.ne aX5 aD5 (by decide)
   have noh := own_ne oh5 aD5 (by decide)
   have nof := own_ne of5 aD5 (by decide)
   have aT6 := f6.av aT5 hTD
   have aX6 := f6.av aX5 hXD
   have oh6 := own_fr oh5 f6 (fun k e q => noh (by rw [e, q]))
   have of6 := own_fr of5 f6 (fun k e q => nof (by rw [e, q]))
   have b6 := b5.trans (f6.below (fun k e => by rw [e]; exact hD) b5.size)
   have k6 := k5.trans (TKeep.ofFr (T := 151) aD5 (by decide) f6)
   have hfn : (fl.set q (orBit x sf)).length = nf := by simpa using hf1n
   have hfz2 : pFlags ((s ++ [(⟨xh, xi, true⟩ : PV)]).map PV.d) = (fl.set q (orBit x sf)) := hfl2.out.trans hfz.symm
   replace hfz2 := Lib.hid hfz2
   replace hfn := Lib.hid hfn
   replace hw6 := Lib.hid hw6
   clear f6 hTD hXD noh nof aT5 aX5 oh5 of5 b5 k5 hfz
   cases t with
   | false =>
    go_wp2
    rw [← hw6.out]
    have hh2 : pHs ls (s ++ [⟨xh, xi, true⟩]) = hs0 := by rw [hxs.out]; simp
    refine bodyPost_endN rfl rfl ⟨⟨_, rfl⟩, ⟨b6, .slice Ah nh ch, .slice (some ⟨g, 0, none⟩) nf cf, ?_, aT6, ?_, ?_⟩, k6⟩
    ·rw [hsl2.out]; exact aD6
    ·rw [hh2, ← hnh.out]; exact oh6
    ·rw [hfz2.out, hfn.out]; exact of6
   | true =>
    obtain ⟨l, y, hl, hy⟩ := hx.out rfl
    have hxl := (List.getElem?_eq_some_iff.1 hl).1
    obtain ⟨p, hp⟩ : ∃ p, ps[xh]? = some p := ⟨_, List.getElem?_eq_getElem (by rw [hps.1]; exact hxl)⟩
    obtain ⟨rp, hpc⟩ := hps.2 xh p l hp hl
    have hl32 := h32.out l (List.mem_of_getElem? hl)
    obtain ⟨hyl, hye⟩ := List.getElem?_eq_some_iff.1 hy
    have hgd : l.getD xi [] = y := by rw [List.getD_eq_getElem?_getD, hy]; rfl
    have hy0 : y.length = 32 := hl32 y (by rw [← hye]; exact List.getElem_mem hyl)
    have hy32 : (y.map bv).length = 32 := by rw [List.length_map, hy0]
    have hyone := bv_one y
    obtain ⟨p1, pc⟩ := p
    dsimp only at rp hpc
    obtain ⟨pb, po, rfl⟩ := rp.someA (by intro e; have := congrArg List.length e; rw [hcl_length hl32] at this; simp at this; omega)
    have hsc := scl_get ps ls xh _ l hp hl
    dsimp only at hsc
    obtain ⟨ll, hll⟩ : ∃ ll, ll = l.length := ⟨_, rfl⟩
    rw [← hll] at hsc hpc
    obtain ⟨bb, off, rfl⟩ := hAl.someA (by intro e; rw [e] at hsc; cases hsc)
    have hcell : ∀ w', Rd w' (some ⟨bb, off, none⟩) (scl ps ls) → w'.cell? ⟨bb, off + xh, none⟩ = some (.slice (some ⟨pb, po, none⟩) ll pc) := by
     intro w' h
     rcases h with h | ⟨b', o', hA', hc⟩
     ·rw [h] at hsc; cases hsc
     ·cases hA'
      exact hc xh _ hsc
    have hrng : ∀ w', Rd w' (some ⟨pb, po, none⟩) (hcl l) → w'.rangeAt pb (po + xi * 32) (y.map bv) := fun w' h => by have := h.hash hl32 xi hyl; rwa [hgd] at this
    have rA6 := hAl.below b6
    have rP6 := rp.below b6
    have aL6 := aL.below b6
    have hh2 : pHs ls (s ++ [⟨xh, xi, true⟩]) = hs0 ++ [y] := by
     have e0 : ls.getD xh [] = l := by rw [List.getD_eq_getElem?_getD, hl]; rfl
     rw [hxs.out, if_pos rfl, e0, hgd]
    have hxnl : xh < nl := by rw [← hnl.out]; exact hxl
    have hxll : xi < ll := by rw [hll]; exact hyl
    replace hcell := Lib.hid hcell
    replace hrng := Lib.hid hrng
    replace hy32 := Lib.hid hy32
    replace hyone := Lib.hid hyone
    replace hh2 := Lib.hid hh2
    replace hgd := Lib.hid hgd
    replace hll := Lib.hid hll
    replace hl := Lib.hid hl
    replace hy := Lib.hid hy
    replace hye := Lib.hid hye
    replace hp := Lib.hid hp
    replace hsc := Lib.hid hsc
    have hx1 : (xh : Int) < (nl : Int) := by omega
    have hx2 : (xi : Int) < (ll : Int) := by omega
    clear rp
    go_upto_region 7 with fail
    rw [← hw6.out]
    clear cD5 fD5
    refine wp_region_relT 12 [(11, fun v w' => ∃ g, v = .slice (some ⟨g, 0, none⟩) 1 1 ∧ w6.heap.size ≤ g ∧ Av w' g 30 (y.map bv))] Ext (by kernel_rfl) (by kernel_rfl) (by kernel_rfl) (by kernel_rfl) (by kernel_rfl) Ext.refl Ext.trans (by
     intro p hp v w w' hR
     simp only [List.mem_singleton] at hp
     subst hp
     rintro ⟨g, e, h1, h2⟩
     exact ⟨g, e, h1, h2.below hR⟩) ?_
    refine ZP (fun w _ => by go_simp; first | done | rfl) ?_
    refine ZP (c := .slice Ah nh ch) (fun w hw => by have := (aT6.below hw.drew).cell 1 _ rfl; go_simp; first | done | rfl) ?_
    refine ZP (c := .slice (some ⟨bb, off, none⟩) nl cl) (fun w hw => by have := (aL6.below hw.drew).cell 0 _ rfl; go_simp; first | done | rfl) ?_
    refine ZP (fun w _ => by go_simp; first | done | rfl) ?_
    refine ZP (c := .int .i64 (xh : Int)) (fun w hw => by have := (aX6.below hw.drew).cell 0 _ rfl; go_simp; first | done | rfl) ?_
    refine ZP (c := .pointer (some ⟨bb, off + xh, none⟩)) (fun w _ => by go_simp; first | done | rfl) ?_
    refine ZP (c := .slice (some ⟨pb, po, none⟩) ll pc) (fun w hw => by have := hcell.out _ (rA6.below hw.drew); go_simp; first | done | rfl) ?_
    refine ZP (fun w _ => by go_simp; first | done | rfl) ?_
    refine ZP (c := .int .i64 (xi : Int)) (fun w hw => by have := (aX6.below hw.drew).cell 1 _ rfl; go_simp; first | done | rfl) ?_
    refine ZP (c := .pointer (some ⟨pb, po + xi * 32, none⟩)) (fun w _ => by go_simp; first | done | rfl) ?_
    refine ZP (c := .agg (hcs y)) (fun w hw => exec_load_mid _ _ rfl pb (po + xi * 32) rfl (y.map bv) _ (hrng.out _ (rP6.below hw.drew)) Tryd.underlying30 rfl (by rw [hy32.out]; kernel_rfl)) ?_
    refine relWord _ rfl (fun w hw => fill_none rfl (relOp_yes rfl ?_)) ?_
    ·rw [exec_build1 Tryd.underlying23 infoHs32 zeroHs32 (by decide) (by decide) _ (y.map bv) hy32.out _ rfl rfl]
     exact ⟨(Below.refl _ _).alloc (Nat.le_refl _) _, _, rfl, hw.drew.size, heap_alloc_new _ _⟩
    refine relEnd fun w7 hw7 => fill_take rfl rfl fun v hv => fill_end ?_
    obtain ⟨gy, rfl, hgy, agy⟩ := hv
    simp only [List.drop_succ_cons, List.drop_zero, List.set_cons_succ, List.set_cons_zero]
    have bd0 : Below w6.heap.size w6 w7 := hw7.drew
    have bd := bd0
    have oha := own_below oh6 bd
    have ofa := own_below of6 bd
    have aDa := aD6.below bd
    have aTa := aT6.below bd
    have ba := b6.trans (bd.mono b6.size)
    have ka := k6.trans (TKeep.ofBelow (T := 151) bd)
    have hBa := Lib.hid ba.size
    have hnb2 : nh ≤ 100000 := Nat.le_trans hhl hs
    clear bd bd0 hw7 oh6 of6 aD6 aT6 aX6 b6 k6 rA6 rP6 aL6
    go_wp2_with ((at_builtin; refine wpList_appE Tryd.underlying23 infoHs32 zeroHs32 (by decide) oha hBa.out (y.map bv) 1 1 agy.rd (by rw [hy32.out]) hyone.out (by omega) (by omega) rfl (.tmp 33) (.tmp 43) rfl rfl rfl ?_; intro v8 w8 oh8 gr8 ob8; obtain ⟨A8, c8, rfl, hc8, _⟩ := own_form oh8; have aT8 := (Fr.of_grown gr8).av aTa (fun e => own_ne oha aTa (by decide) e.symm); have cT1 := aT8.cell 1 _ rfl; have fT1 := frozen_of_row _ _ 1 _ _ aT8))
    have f8 := Fr.of_grown gr8
    have aD8 := f8.av aDa (fun e => own_ne oha aDa (by decide) e.symm)
    have of8 := own_fr ofa f8 (fun k e q => own_ne2 oha ofa (by decide) k e q.symm)
    have b8 := own_app ba oha gr8 hBa.out
    have k8 := ka.trans (TKeep.ofGrown (T := 151) oha (by decide) gr8)
    have f9 := Fr.setCell w8 ⟨T, 1, none⟩ (.slice A8 (nh + 1) c8)
    have aT9 := aT8.set 1 (.slice A8 (nh + 1) c8)
    have hTD := Av.ne aT8 aD8 (by decide)
    have noh := own_ne oh8 aT8 (by decide)
    have nof := own_ne of8 aT8 (by decide)
    refine bodyPost_endN rfl rfl ⟨⟨_, rfl⟩, ⟨b8.trans (f9.below (fun k e => by rw [e]; exact hT) b8.size), .slice A8 (nh + 1) c8, .slice (some ⟨g, 0, none⟩) nf cf, ?_, aT9, ?_, ?_⟩, k8.trans (TKeep.ofFr (T := 151) aT8 (by decide) f9)⟩
    ·rw [hsl2.out]; exact f9.av aD8 (Ne.symm hTD)
    ·have e1 : (hs0 ++ [y]).length = nh + 1 := by rw [List.length_append, ← hnh.out]; rfl
     have e2 : hcl (hs0 ++ [y]) = hcl hs0 ++ y.map bv := by simp [hcl]
     rw [hh2.out, e1, e2]
     exact own_fr oh8 f9 (fun k e q => noh (by rw [e, q]))
    ·rw [hfz2.out, hfn.out]; exact own_fr of8 f9 (fun k e q => nof (by rw [e, q]))
end Go.Proofs.YtobjgebojhjhnaaDoor
