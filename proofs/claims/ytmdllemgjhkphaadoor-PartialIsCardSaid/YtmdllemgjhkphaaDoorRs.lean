/- florinref11: maker.visit. -/
import Derived.Test.YtmdllemgjhkphaaDoorRq
import Derived.Test.YtmdllemgjhkphaaDoorPr18
import Derived.Test.YtmdllemgjhkphaaDoorPr17
namespace Go.Proofs.YtmdllemgjhkphaaDoor
open Go.RowKit
/-- the cells of a maker -/
def mkc (n : Nat) (Am : Option Addr) (nm cm : Nat) (Al : Option Addr) (nl cl : Nat) (D V : Value) : List Value := [.int .i64 n, .slice Am nm cm, .slice Al nl cl, D, V]
theorem infoBlR : (Tryd.prog.info? 4).map (fun i => (i.size, i.bytes)) = some (1, 1) := by kernel_rfl
theorem zeroBlR : (Tryd.prog.info? 4).map (fun i => (i.zero.map (·.cells.size))) = some (some 1) := by kernel_rfl
/-- what visit leaves -/
def MVPost (n : Nat) (Am : Option Addr) (nm cm : Nat) (Al : Option Addr) (nl cl G : Nat) (w0 : World) (ls : List (List (List UInt8))) (ds : List Bool) (hh : List (List UInt8)) (vs : List PV) (e : Ending) (w' : World) : Prop :=
  e = .returned (.tuple #[]) ∧ Below w0.heap.size w0 w' ∧ ∃ D V, Av w' G 76 (mkc n Am nm cm Al nl cl D V) ∧ w'.ownsRow w0.heap.size 4 1 D (ds ++ vs.map PV.d).length ((ds ++ vs.map PV.d).map Value.bool) ∧ w'.ownsRow w0.heap.size 28 32 V (hh ++ pHs ls vs).length (hcl (hh ++ pHs ls vs))
set_option maxRecDepth 100000 in
set_option maxHeartbeats 4000000 in
theorem MV_leaf0 (ms : List Bool) (nm cm : Nat) (Am : Option Addr) (n : Nat) (hnm : ms.length = nm) (hnm2 : nm ≤ 1000000) (_ : 0 < n) (hn : n ≤ 4096) (ls : List (List (List UInt8))) (ps : List (Option Addr × Nat)) (Al : Option Addr) (nl cl G : Nat) (w0 : World) (hrm : Rd w0 Am (ms.map Value.bool)) (hra : Rd w0 Al (scl ps ls)) (hlv : LvAt w0 ps ls) (hnl : ls.length = nl) (hl32 : ∀ l ∈ ls, All32 l) (hBG : w0.heap.size ≤ G)
    (i : Nat) (i4 : i ≤ 4096) (ds : List Bool) (hh : List (List UInt8)) (D V : Value) (w : World) (hb : Below w0.heap.size w0 w) (hA : Av w G 76 (mkc n Am nm cm Al nl cl D V)) (oD : w.ownsRow w0.heap.size 4 1 D ds.length (ds.map Value.bool)) (oV : w.ownsRow w0.heap.size 28 32 V hh.length (hcl hh)) (hds : ds.length ≤ 50000) (hhs : hh.length ≤ 50000)
    (d0 : Bool) (h12 : 0 ≤ 12) (hV : pHas n ms 0 i = d0) (x : List (List UInt8)) (hx : ls[0]? = some x) (hix : i < x.length) :
    Calls Tryd.prog 30 #[.pointer (some ⟨G, 0, none⟩), .int .i64 0, .int .i64 (i : Int)] w (MVPost n Am nm cm Al nl cl G w0 ls ds hh ([⟨0, i, d0⟩])) := by
  have HH := HasR ms nm cm Am n 0 i hnm hnm2 hn h12 i4
  rw [hV] at HH
  replace HH := Lib.hid (fun w' (hE : Below w0.heap.size w0 w') => HH w' (hrm.below hE))
  have oDG := own_ne oD hA (by decide)
  have oVG := own_ne oV hA (by decide)
  replace oDG := Lib.hid oDG
  replace oVG := Lib.hid oVG
  replace hV := Lib.hid hV
  replace hnl := Lib.hid hnl
  replace hnm := Lib.hid hnm
  obtain ⟨nd, hnd⟩ : ∃ nd, nd = ds.length := ⟨_, rfl⟩
  rw [← hnd] at oD hds
  replace hnd := Lib.hid hnd
  go_enter Tryd.func30, Tryd.ntmps30
  go_wp2_with fail
  have H1 : ∀ w', Ext w.drew w' → Below w0.heap.size w0 w' := fun w' hE => hb.trans (hE.drew.mono hb.size)
  refine wp_region_rel [] Ext (by kernel_rfl) (by kernel_rfl) (by kernel_rfl) Ext.refl Ext.trans (by intro p hp; cases hp) ?_
  refine relMove Ext.refl rfl rfl rfl rfl _ (.inl rfl) (by conv => lhs; whnf) (by simp only [List.set_cons_succ, List.set_cons_zero]; rfl) ?_
  refine relPure Ext.refl rfl rfl rfl rfl (fun w _ => by go_simp; first | done | rfl) (by simp only [List.set_cons_succ, List.set_cons_zero]; rfl) ?_
  refine relPure Ext.refl rfl rfl rfl rfl (fun w _ => by go_simp; first | done | rfl) (by simp only [List.set_cons_succ, List.set_cons_zero]; rfl) ?_
  refine relPure Ext.refl rfl rfl rfl rfl (c := .int .i64 (n : Int)) (fun w hw => by have := (hA.below hw.drew).cell 0 _ rfl; go_simp; first | done | rfl) (by simp only [List.set_cons_succ, List.set_cons_zero]; rfl) ?_
  refine relMove Ext.refl rfl rfl rfl rfl _ (.inl rfl) (by conv => lhs; whnf) (by simp only [List.set_cons_succ, List.set_cons_zero]; rfl) ?_
  refine relPure Ext.refl rfl rfl rfl rfl (fun w _ => by go_simp; first | done | rfl) (by simp only [List.set_cons_succ, List.set_cons_zero]; rfl) ?_
  refine relPure Ext.refl rfl rfl rfl rfl (fun w _ => by go_simp; first | done | rfl) (by simp only [List.set_cons_succ, List.set_cons_zero]; rfl) ?_
  refine relPure Ext.refl rfl rfl rfl rfl (c := .slice Am nm cm) (fun w hw => by have := (hA.below hw.drew).cell 1 _ rfl; go_simp; first | done | rfl) (by simp only [List.set_cons_succ, List.set_cons_zero]; rfl) ?_
  refine relMove Ext.refl rfl rfl rfl rfl _ (.inl rfl) (by conv => lhs; whnf) (by simp only [List.set_cons_succ, List.set_cons_zero]; rfl) ?_
  refine relMove Ext.refl rfl rfl rfl rfl _ (.inl rfl) (by conv => lhs; whnf) (by simp only [List.set_cons_succ, List.set_cons_zero]; rfl) ?_
  refine relCall1 rfl rfl rfl rfl (c := .bool d0) 48 #[.int .i64 (n : Int), .slice Am nm cm, (.int .i64 0), .int .i64 (i : Int)] (fun w => by go_simp) (fun w hw => (HH.out w (H1 w hw)).mono (by rintro e w' ⟨rfl, rfl⟩; exact ⟨rfl, Ext.refl _⟩)) (by simp only [List.set_cons_succ, List.set_cons_zero]; rfl) ?_
  refine relMove Ext.refl rfl rfl rfl rfl _ (.inr rfl) (by conv => lhs; whnf) (by simp only [List.set_cons_succ, List.set_cons_zero]; rfl) ?_
  refine relEnd fun w1 hw1 => fill_end ?_
  have e1 := hw1.drew
  have a1 := hA.below e1
  have d1 := own_below oD e1
  have v1 := own_below oV e1
  have b1 := hb.trans (e1.mono hb.size)
  clear H1 hw1 e1 hA oD oV hb
  have hnw : w0.heap.size ≤ w1.heap.size := b1.size
  have c3 := a1.cell 3 _ rfl
  have bA := (Below.refl w1.heap.size w1).alloc (Nat.le_refl _) (.cells #[.bool d0] 4)
  have aA := a1.below bA
  have dA := own_below d1 bA
  have vA := own_below v1 bA
  have bbA := b1.trans (bA.mono b1.size)
  have hle : (nd + 1) * 1 ≤ 140737488355328 := by omega
  go_upto_region 2 with (at_builtin; refine wpList_appE Tryd.underlying39 infoBlR zeroBlR (by decide) dA bbA.size [.bool d0] 1 1 (Rd.one _ _ _) rfl (by simp [Value.oneCell']) (by omega) hle rfl (.tmp 22) (.tmp 24) rfl rfl rfl ?_; intro D2 w2 d2 gr2 ob2; obtain ⟨Ad, cd, rfl, hcd, _⟩ := own_form d2; have T2 := TOnly.ofGrown dA gr2; have a2 := T2.av aA (by decide); have v2 := T2.own vA (by decide); have b2 := T2.below bbA (Nat.le_refl _) bbA.size; have f3 := frozen_of_row _ _ 3 _ _ a2; have c3' := a2.cell 3 _ rfl)
  have a3 := a2.set 3 (.slice Ad (nd + 1) cd)
  have b3 := b2.setCell (p := ⟨G, 3, none⟩) hBG (.slice Ad (nd + 1) cd)
  have d3 := own_fr d2 (Fr.setCell w2 ⟨G, 3, none⟩ (.slice Ad (nd + 1) cd)) (fun j e h => own_ne d2 a2 (by decide) (by rw [e, h]))
  have v3 := own_fr v2 (Fr.setCell w2 ⟨G, 3, none⟩ (.slice Ad (nd + 1) cd)) (fun j e h => own_ne v2 a2 (by decide) (by rw [e, h]))
  clear T2 c3 c3' f3 gr2 ob2 aA dA vA bbA bA a1 d1 v1 b1 hnw
  generalize w2.setCell ⟨G, 3, none⟩ (.slice Ad (nd + 1) cd) = w3 at *
  clear a2 d2 v2 b2
  replace a3 : Av w3 G 76 (mkc n Am nm cm Al nl cl (.slice Ad (nd + 1) cd) V) := a3
  have hds3 : ds.map Value.bool ++ [.bool d0] = (ds ++ [d0]).map Value.bool := by simp
  rw [hds3] at d3
  have x32 := hl32 x (List.mem_of_getElem? hx)
  obtain ⟨z, hzz⟩ : ∃ z, z = x.getD i [] := ⟨_, rfl⟩
  have z32 : z.length = 32 := by rw [hzz]; exact x32.get _ hix
  have zv : (z.map bv).length = 32 := by rw [List.length_map, z32]
  have zone : ∀ u ∈ z.map bv, u.oneCell' = true := bv_one z
  obtain ⟨nx, hnx⟩ : ∃ nx, x.length = nx := ⟨_, rfl⟩
  obtain ⟨ba, oa, e⟩ := hra.someA (by
    intro e
    have := scl_length ps ls hlv.1
    rw [e] at this
    have h1 := (List.getElem?_eq_some_iff.1 hx).1
    simp at this
    omega)
  subst e
  obtain ⟨p, hp⟩ : ∃ p, ps[0]? = some p := ⟨_, List.getElem?_eq_getElem (by rw [hlv.1]; exact (List.getElem?_eq_some_iff.1 hx).1)⟩
  have hsc := scl_get ps ls 0 p x hp hx
  have cc : ∀ w', Below w0.heap.size w0 w' → w'.cell? ⟨ba, oa + 0, none⟩ = some (.slice p.1 nx p.2) := fun w' hE => by
    rw [← hnx]
    rcases hra.below hE with h | ⟨b', o', hA', hc⟩
    · rw [h] at hsc; cases hsc
    · cases hA'
      exact hc _ _ hsc
  have hrx := (hlv.2 0 p x hp hx).1
  obtain ⟨bx, ox, hpx⟩ := hrx.someA (hcl_ne x32 (by omega))
  have rzz := fun w' (hE : Below w0.heap.size w0 w') => hzz ▸ Rd.hash (hpx ▸ (hrx.below hE)) x32 i hix
  rw [hpx] at cc
  have hnl2 : 0 < nl := by rw [← hnl.out]; exact (List.getElem?_eq_some_iff.1 hx).1
  have m1 : (i : Int) < (nx : Int) := by omega
  have m0 : 0 ≤ (i : Int) := by omega
  simp only [Nat.add_zero] at cc
  obtain ⟨px, hpx2⟩ : ∃ c, c = p.2 := ⟨_, rfl⟩
  rw [← hpx2] at cc
  clear hpx2 hpx hrx
  replace hx := Lib.hid hx
  replace hp := Lib.hid hp
  replace hsc := Lib.hid hsc
  replace hnx := Lib.hid hnx
  replace hzz := Lib.hid hzz
  replace hix := Lib.hid hix
  replace zv := Lib.hid zv
  replace zone := Lib.hid zone
  replace cc := Lib.hid cc
  replace rzz := Lib.hid rzz
  obtain ⟨nh, hnh⟩ : ∃ nh, nh = hh.length := ⟨_, rfl⟩
  rw [← hnh] at v3 hhs
  replace hnh := Lib.hid hnh
  have hw3 := b3.size
  go_upto_region 3 with fail
  have H3 : ∀ w', Ext w3.drew w' → Below w0.heap.size w0 w' := fun w' hE => b3.trans (hE.drew.mono b3.size)
  refine wp_region_relM 16 16 [(15, fun v w' => ∃ g, v = .slice (some ⟨g, 0, none⟩) 1 1 ∧ w3.heap.size ≤ g ∧ Av w' g 28 (z.map bv))] Ext (by kernel_rfl) (by simp only [waitOn, List.push_toArray, List.cons_append, List.nil_append]; rfl) rfl (by decide) (by kernel_rfl) (by kernel_rfl) (fun _ _ _ h => h) (by kernel_rfl) (by kernel_rfl) (by kernel_rfl) (by kernel_rfl) Ext.refl Ext.trans (by
      intro p hp v w w' hR
      simp only [List.mem_singleton] at hp
      subst hp
      rintro ⟨g, e, h1, h2⟩
      exact ⟨g, e, h1, h2.below hR⟩) ?_
  refine relMove Ext.refl rfl rfl rfl rfl _ (.inl rfl) (by conv => lhs; whnf) (by simp only [List.set_cons_succ, List.set_cons_zero]; rfl) ?_
  refine relMove Ext.refl rfl rfl rfl rfl _ (.inl rfl) (by conv => lhs; whnf) (by simp only [List.set_cons_succ, List.set_cons_zero]; rfl) ?_
  refine relPure Ext.refl rfl rfl rfl rfl (fun w _ => by go_simp; first | done | rfl) (by simp only [List.set_cons_succ, List.set_cons_zero]; rfl) ?_
  refine relPure Ext.refl rfl rfl rfl rfl (fun w _ => by go_simp; first | done | rfl) (by simp only [List.set_cons_succ, List.set_cons_zero]; rfl) ?_
  refine relPure Ext.refl rfl rfl rfl rfl (c := V) (fun w hw => by have := (a3.below hw.drew).cell 4 _ rfl; go_simp; first | done | rfl) (by simp only [List.set_cons_succ, List.set_cons_zero]; rfl) ?_
  refine relMove Ext.refl rfl rfl rfl rfl _ (.inl rfl) (by conv => lhs; whnf) (by simp only [List.set_cons_succ, List.set_cons_zero]; rfl) ?_
  refine relPure Ext.refl rfl rfl rfl rfl (fun w _ => by go_simp; first | done | rfl) (by simp only [List.set_cons_succ, List.set_cons_zero]; rfl) ?_
  refine relPure Ext.refl rfl rfl rfl rfl (fun w _ => by go_simp; first | done | rfl) (by simp only [List.set_cons_succ, List.set_cons_zero]; rfl) ?_
  refine relPure Ext.refl rfl rfl rfl rfl (c := .slice (some ⟨ba, oa, none⟩) nl cl) (fun w hw => by have := (a3.below hw.drew).cell 2 _ rfl; go_simp; first | done | rfl) (by simp only [List.set_cons_succ, List.set_cons_zero]; rfl) ?_
  refine relMove Ext.refl rfl rfl rfl rfl _ (.inl rfl) (by conv => lhs; whnf) (by simp only [List.set_cons_succ, List.set_cons_zero]; rfl) ?_
  refine relPure Ext.refl rfl rfl rfl rfl (fun w _ => by go_simp; first | done | rfl) (by simp only [List.set_cons_succ, List.set_cons_zero]; rfl) ?_
  refine relPure Ext.refl rfl rfl rfl rfl (c := .slice (some ⟨bx, ox, none⟩) nx px) (fun w hw => by have := cc.out w (H3 w hw); go_simp; first | done | rfl) (by simp only [List.set_cons_succ, List.set_cons_zero]; rfl) ?_
  refine relMove Ext.refl rfl rfl rfl rfl _ (.inl rfl) (by conv => lhs; whnf) (by simp only [List.set_cons_succ, List.set_cons_zero]; rfl) ?_
  refine relPure Ext.refl rfl rfl rfl rfl (fun w _ => by go_simp; first | done | rfl) (by simp only [List.set_cons_succ, List.set_cons_zero]; rfl) ?_
  refine relPure Ext.refl rfl rfl rfl rfl (c := .agg (hcs z)) (fun w hw => exec_load_mid _ _ rfl bx (ox + i * 32) rfl (z.map bv) _ (rzz.out w (H3 w hw)) Tryd.underlying28 rfl (by rw [zv.out]; kernel_rfl)) (by simp only [List.set_cons_succ, List.set_cons_zero]; rfl) ?_
  refine relWord _ rfl (fun w hw => fill_none rfl (relOp_yes rfl ?_)) ?_
  · rw [exec_build1 Tryd.underlying23 infoHs32 zeroHs32 (by decide) (by decide) _ (z.map bv) zv.out _ rfl rfl]
    exact ⟨(Below.refl _ _).alloc (Nat.le_refl _) _, _, rfl, hw.drew.size, heap_alloc_new _ _⟩
  refine relEnd fun w6 hw6 => fill_take rfl rfl fun v hv => fill_end ?_
  obtain ⟨q, rfl, hq, aq⟩ := hv
  simp only [List.set_cons_succ, List.set_cons_zero, List.drop_succ_cons, List.drop_zero]
  have e6 := hw6.drew
  have a6 := a3.below e6
  have d6 := own_below d3 e6
  have v6 := own_below v3 e6
  have b6 := b3.trans (e6.mono b3.size)
  have hbs := b6.size
  have hle2 : (nh + 1) * 32 ≤ 140737488355328 := by omega
  go_wp2_with (at_builtin; refine wpList_appE Tryd.underlying23 infoHs32 zeroHs32 (by decide) v6 hbs (z.map bv) 1 1 aq.rd (by rw [zv.out]) zone.out (by omega) hle2 rfl (.tmp 38) (.tmp 49) rfl rfl rfl ?_; intro V7 w7 v7 gr7 ob7; obtain ⟨Av7, cv7, rfl, hcv7, _⟩ := own_form v7; have T7 := TOnly.ofGrown v6 gr7; have a7 := T7.av a6 (by decide); have d7 := T7.own d6 (by decide); have b7 := T7.below b6 (Nat.le_refl _) hbs; have f4 := frozen_of_row _ _ 4 _ _ a7; have c4 := a7.cell 4 _ rfl)
  have a8 := a7.set 4 (.slice Av7 (nh + 1) cv7)
  have b8 := b7.setCell (p := ⟨G, 4, none⟩) hBG (.slice Av7 (nh + 1) cv7)
  have d8 := own_fr d7 (Fr.setCell w7 ⟨G, 4, none⟩ (.slice Av7 (nh + 1) cv7)) (fun j e h => own_ne d7 a7 (by decide) (by rw [e, h]))
  have v8 := own_fr v7 (Fr.setCell w7 ⟨G, 4, none⟩ (.slice Av7 (nh + 1) cv7)) (fun j e h => own_ne v7 a7 (by decide) (by rw [e, h]))
  refine bodyPost_ret (results_none rfl _ _ _) rfl ⟨rfl, b8, .slice Ad (nd + 1) cd, .slice Av7 (nh + 1) cv7, a8, ?_, ?_⟩
  · rw [show (ds ++ [PV.mk 0 i d0].map PV.d) = ds ++ [d0] from rfl, List.length_append, ← hnd.out]
    exact d8
  · rw [show hh ++ pHs ls [PV.mk 0 i d0] = hh ++ [z] by rw [hzz.out]; simp [pHs, PV.told, List.getD_eq_getElem?_getD, hx.out]]
    rw [hcl_append, hcl_one, List.length_append, ← hnh.out]
    exact v8
set_option maxRecDepth 100000 in
set_option maxHeartbeats 4000000 in
theorem MV_leafS (ms : List Bool) (nm cm : Nat) (Am : Option Addr) (n : Nat) (hnm : ms.length = nm) (hnm2 : nm ≤ 1000000) (_ : 0 < n) (hn : n ≤ 4096) (ls : List (List (List UInt8))) (ps : List (Option Addr × Nat)) (Al : Option Addr) (nl cl G : Nat) (w0 : World) (hrm : Rd w0 Am (ms.map Value.bool)) (hra : Rd w0 Al (scl ps ls)) (hlv : LvAt w0 ps ls) (hnl : ls.length = nl) (hl32 : ∀ l ∈ ls, All32 l) (hBG : w0.heap.size ≤ G)
    (i : Nat) (i4 : i ≤ 4096) (ds : List Bool) (hh : List (List UInt8)) (D V : Value) (w : World) (hb : Below w0.heap.size w0 w) (hA : Av w G 76 (mkc n Am nm cm Al nl cl D V)) (oD : w.ownsRow w0.heap.size 4 1 D ds.length (ds.map Value.bool)) (oV : w.ownsRow w0.heap.size 28 32 V hh.length (hcl hh)) (hds : ds.length ≤ 50000) (hhs : hh.length ≤ 50000)
    (h' : Nat) (h12 : (h' + 1) ≤ 12) (hV : pHas n ms (h' + 1) i = false) (x : List (List UInt8)) (hx : ls[(h' + 1)]? = some x) (hix : i < x.length) :
    Calls Tryd.prog 30 #[.pointer (some ⟨G, 0, none⟩), .int .i64 ((h' : Int) + 1), .int .i64 (i : Int)] w (MVPost n Am nm cm Al nl cl G w0 ls ds hh ([⟨(h' + 1), i, false⟩])) := by
  have th : ((h' : Int) + 1 == 0) = false := by simp; omega
  have HH := HasR ms nm cm Am n (h' + 1) i hnm hnm2 hn h12 i4
  rw [hV] at HH
  rw [show ((h' + 1 : Nat) : Int) = (h' : Int) + 1 by omega] at HH
  replace HH := Lib.hid (fun w' (hE : Below w0.heap.size w0 w') => HH w' (hrm.below hE))
  have oDG := own_ne oD hA (by decide)
  have oVG := own_ne oV hA (by decide)
  replace oDG := Lib.hid oDG
  replace oVG := Lib.hid oVG
  replace hV := Lib.hid hV
  replace hnl := Lib.hid hnl
  replace hnm := Lib.hid hnm
  obtain ⟨nd, hnd⟩ : ∃ nd, nd = ds.length := ⟨_, rfl⟩
  rw [← hnd] at oD hds
  replace hnd := Lib.hid hnd
  go_enter Tryd.func30, Tryd.ntmps30
  go_wp2_with fail
  have H1 : ∀ w', Ext w.drew w' → Below w0.heap.size w0 w' := fun w' hE => hb.trans (hE.drew.mono hb.size)
  refine wp_region_rel [] Ext (by kernel_rfl) (by kernel_rfl) (by kernel_rfl) Ext.refl Ext.trans (by intro p hp; cases hp) ?_
  refine relMove Ext.refl rfl rfl rfl rfl _ (.inl rfl) (by conv => lhs; whnf) (by simp only [List.set_cons_succ, List.set_cons_zero]; rfl) ?_
  refine relPure Ext.refl rfl rfl rfl rfl (fun w _ => by go_simp; first | done | rfl) (by simp only [List.set_cons_succ, List.set_cons_zero]; rfl) ?_
  refine relPure Ext.refl rfl rfl rfl rfl (fun w _ => by go_simp; first | done | rfl) (by simp only [List.set_cons_succ, List.set_cons_zero]; rfl) ?_
  refine relPure Ext.refl rfl rfl rfl rfl (c := .int .i64 (n : Int)) (fun w hw => by have := (hA.below hw.drew).cell 0 _ rfl; go_simp; first | done | rfl) (by simp only [List.set_cons_succ, List.set_cons_zero]; rfl) ?_
  refine relMove Ext.refl rfl rfl rfl rfl _ (.inl rfl) (by conv => lhs; whnf) (by simp only [List.set_cons_succ, List.set_cons_zero]; rfl) ?_
  refine relPure Ext.refl rfl rfl rfl rfl (fun w _ => by go_simp; first | done | rfl) (by simp only [List.set_cons_succ, List.set_cons_zero]; rfl) ?_
  refine relPure Ext.refl rfl rfl rfl rfl (fun w _ => by go_simp; first | done | rfl) (by simp only [List.set_cons_succ, List.set_cons_zero]; rfl) ?_
  refine relPure Ext.refl rfl rfl rfl rfl (c := .slice Am nm cm) (fun w hw => by have := (hA.below hw.drew).cell 1 _ rfl; go_simp; first | done | rfl) (by simp only [List.set_cons_succ, List.set_cons_zero]; rfl) ?_
  refine relMove Ext.refl rfl rfl rfl rfl _ (.inl rfl) (by conv => lhs; whnf) (by simp only [List.set_cons_succ, List.set_cons_zero]; rfl) ?_
  refine relMove Ext.refl rfl rfl rfl rfl _ (.inl rfl) (by conv => lhs; whnf) (by simp only [List.set_cons_succ, List.set_cons_zero]; rfl) ?_
  refine relCall1 rfl rfl rfl rfl (c := .bool false) 48 #[.int .i64 (n : Int), .slice Am nm cm, (.int .i64 ((h' : Int) + 1)), .int .i64 (i : Int)] (fun w => by go_simp) (fun w hw => (HH.out w (H1 w hw)).mono (by rintro e w' ⟨rfl, rfl⟩; exact ⟨rfl, Ext.refl _⟩)) (by simp only [List.set_cons_succ, List.set_cons_zero]; rfl) ?_
  refine relMove Ext.refl rfl rfl rfl rfl _ (.inr rfl) (by conv => lhs; whnf) (by simp only [List.set_cons_succ, List.set_cons_zero]; rfl) ?_
  refine relEnd fun w1 hw1 => fill_end ?_
  have e1 := hw1.drew
  have a1 := hA.below e1
  have d1 := own_below oD e1
  have v1 := own_below oV e1
  have b1 := hb.trans (e1.mono hb.size)
  clear H1 hw1 e1 hA oD oV hb
  have hnw : w0.heap.size ≤ w1.heap.size := b1.size
  have c3 := a1.cell 3 _ rfl
  have bA := (Below.refl w1.heap.size w1).alloc (Nat.le_refl _) (.cells #[.bool false] 4)
  have aA := a1.below bA
  have dA := own_below d1 bA
  have vA := own_below v1 bA
  have bbA := b1.trans (bA.mono b1.size)
  have hle : (nd + 1) * 1 ≤ 140737488355328 := by omega
  go_upto_region 2 with (at_builtin; refine wpList_appE Tryd.underlying39 infoBlR zeroBlR (by decide) dA bbA.size [.bool false] 1 1 (Rd.one _ _ _) rfl (by simp [Value.oneCell']) (by omega) hle rfl (.tmp 22) (.tmp 24) rfl rfl rfl ?_; intro D2 w2 d2 gr2 ob2; obtain ⟨Ad, cd, rfl, hcd, _⟩ := own_form d2; have T2 := TOnly.ofGrown dA gr2; have a2 := T2.av aA (by decide); have v2 := T2.own vA (by decide); have b2 := T2.below bbA (Nat.le_refl _) bbA.size; have f3 := frozen_of_row _ _ 3 _ _ a2; have c3' := a2.cell 3 _ rfl)
  have a3 := a2.set 3 (.slice Ad (nd + 1) cd)
  have b3 := b2.setCell (p := ⟨G, 3, none⟩) hBG (.slice Ad (nd + 1) cd)
  have d3 := own_fr d2 (Fr.setCell w2 ⟨G, 3, none⟩ (.slice Ad (nd + 1) cd)) (fun j e h => own_ne d2 a2 (by decide) (by rw [e, h]))
  have v3 := own_fr v2 (Fr.setCell w2 ⟨G, 3, none⟩ (.slice Ad (nd + 1) cd)) (fun j e h => own_ne v2 a2 (by decide) (by rw [e, h]))
  clear T2 c3 c3' f3 gr2 ob2 aA dA vA bbA bA a1 d1 v1 b1 hnw
  generalize w2.setCell ⟨G, 3, none⟩ (.slice Ad (nd + 1) cd) = w3 at *
  clear a2 d2 v2 b2
  replace a3 : Av w3 G 76 (mkc n Am nm cm Al nl cl (.slice Ad (nd + 1) cd) V) := a3
  have hds3 : ds.map Value.bool ++ [.bool false] = (ds ++ [false]).map Value.bool := by simp
  rw [hds3] at d3
  have x32 := hl32 x (List.mem_of_getElem? hx)
  obtain ⟨z, hzz⟩ : ∃ z, z = x.getD i [] := ⟨_, rfl⟩
  have z32 : z.length = 32 := by rw [hzz]; exact x32.get _ hix
  have zv : (z.map bv).length = 32 := by rw [List.length_map, z32]
  have zone : ∀ u ∈ z.map bv, u.oneCell' = true := bv_one z
  obtain ⟨nx, hnx⟩ : ∃ nx, x.length = nx := ⟨_, rfl⟩
  obtain ⟨ba, oa, e⟩ := hra.someA (by
    intro e
    have := scl_length ps ls hlv.1
    rw [e] at this
    have h1 := (List.getElem?_eq_some_iff.1 hx).1
    simp at this
    omega)
  subst e
  obtain ⟨p, hp⟩ : ∃ p, ps[(h' + 1)]? = some p := ⟨_, List.getElem?_eq_getElem (by rw [hlv.1]; exact (List.getElem?_eq_some_iff.1 hx).1)⟩
  have hsc := scl_get ps ls (h' + 1) p x hp hx
  have cc : ∀ w', Below w0.heap.size w0 w' → w'.cell? ⟨ba, oa + (h' + 1), none⟩ = some (.slice p.1 nx p.2) := fun w' hE => by
    rw [← hnx]
    rcases hra.below hE with h | ⟨b', o', hA', hc⟩
    · rw [h] at hsc; cases hsc
    · cases hA'
      exact hc _ _ hsc
  have hrx := (hlv.2 (h' + 1) p x hp hx).1
  obtain ⟨bx, ox, hpx⟩ := hrx.someA (hcl_ne x32 (by omega))
  have rzz := fun w' (hE : Below w0.heap.size w0 w') => hzz ▸ Rd.hash (hpx ▸ (hrx.below hE)) x32 i hix
  rw [hpx] at cc
  have hnl2 : (h' + 1) < nl := by rw [← hnl.out]; exact (List.getElem?_eq_some_iff.1 hx).1
  have m1 : (i : Int) < (nx : Int) := by omega
  have m0 : 0 ≤ (i : Int) := by omega
  have hn0 : 0 ≤ (h' : Int) + 1 := by omega
  have hn1 : (h' : Int) + 1 < (nl : Int) := by omega
  have hn2 : ((h' : Int) + 1).toNat = h' + 1 := by omega
  obtain ⟨px, hpx2⟩ : ∃ c, c = p.2 := ⟨_, rfl⟩
  rw [← hpx2] at cc
  clear hpx2 hpx hrx
  replace hx := Lib.hid hx
  replace hp := Lib.hid hp
  replace hsc := Lib.hid hsc
  replace hnx := Lib.hid hnx
  replace hzz := Lib.hid hzz
  replace hix := Lib.hid hix
  replace zv := Lib.hid zv
  replace zone := Lib.hid zone
  replace cc := Lib.hid cc
  replace rzz := Lib.hid rzz
  obtain ⟨nh, hnh⟩ : ∃ nh, nh = hh.length := ⟨_, rfl⟩
  rw [← hnh] at v3 hhs
  replace hnh := Lib.hid hnh
  have hw3 := b3.size
  go_upto_region 3 with fail
  have H3 : ∀ w', Ext w3.drew w' → Below w0.heap.size w0 w' := fun w' hE => b3.trans (hE.drew.mono b3.size)
  refine wp_region_relM 16 16 [(15, fun v w' => ∃ g, v = .slice (some ⟨g, 0, none⟩) 1 1 ∧ w3.heap.size ≤ g ∧ Av w' g 28 (z.map bv))] Ext (by kernel_rfl) (by simp only [waitOn, List.push_toArray, List.cons_append, List.nil_append]; rfl) rfl (by decide) (by kernel_rfl) (by kernel_rfl) (fun _ _ _ h => h) (by kernel_rfl) (by kernel_rfl) (by kernel_rfl) (by kernel_rfl) Ext.refl Ext.trans (by
      intro p hp v w w' hR
      simp only [List.mem_singleton] at hp
      subst hp
      rintro ⟨g, e, h1, h2⟩
      exact ⟨g, e, h1, h2.below hR⟩) ?_
  refine relMove Ext.refl rfl rfl rfl rfl _ (.inl rfl) (by conv => lhs; whnf) (by simp only [List.set_cons_succ, List.set_cons_zero]; rfl) ?_
  refine relMove Ext.refl rfl rfl rfl rfl _ (.inl rfl) (by conv => lhs; whnf) (by simp only [List.set_cons_succ, List.set_cons_zero]; rfl) ?_
  refine relPure Ext.refl rfl rfl rfl rfl (fun w _ => by go_simp; first | done | rfl) (by simp only [List.set_cons_succ, List.set_cons_zero]; rfl) ?_
  refine relPure Ext.refl rfl rfl rfl rfl (fun w _ => by go_simp; first | done | rfl) (by simp only [List.set_cons_succ, List.set_cons_zero]; rfl) ?_
  refine relPure Ext.refl rfl rfl rfl rfl (c := V) (fun w hw => by have := (a3.below hw.drew).cell 4 _ rfl; go_simp; first | done | rfl) (by simp only [List.set_cons_succ, List.set_cons_zero]; rfl) ?_
  refine relMove Ext.refl rfl rfl rfl rfl _ (.inl rfl) (by conv => lhs; whnf) (by simp only [List.set_cons_succ, List.set_cons_zero]; rfl) ?_
  refine relPure Ext.refl rfl rfl rfl rfl (fun w _ => by go_simp; first | done | rfl) (by simp only [List.set_cons_succ, List.set_cons_zero]; rfl) ?_
  refine relPure Ext.refl rfl rfl rfl rfl (fun w _ => by go_simp; first | done | rfl) (by simp only [List.set_cons_succ, List.set_cons_zero]; rfl) ?_
  refine relPure Ext.refl rfl rfl rfl rfl (c := .slice (some ⟨ba, oa, none⟩) nl cl) (fun w hw => by have := (a3.below hw.drew).cell 2 _ rfl; go_simp; first | done | rfl) (by simp only [List.set_cons_succ, List.set_cons_zero]; rfl) ?_
  refine relMove Ext.refl rfl rfl rfl rfl _ (.inl rfl) (by conv => lhs; whnf) (by simp only [List.set_cons_succ, List.set_cons_zero]; rfl) ?_
  refine relPure Ext.refl rfl rfl rfl rfl (fun w _ => by go_simp; first | done | rfl) (by simp only [List.set_cons_succ, List.set_cons_zero]; rfl) ?_
  refine relPure Ext.refl rfl rfl rfl rfl (c := .slice (some ⟨bx, ox, none⟩) nx px) (fun w hw => by have := cc.out w (H3 w hw); go_simp; first | done | rfl) (by simp only [List.set_cons_succ, List.set_cons_zero]; rfl) ?_
  refine relMove Ext.refl rfl rfl rfl rfl _ (.inl rfl) (by conv => lhs; whnf) (by simp only [List.set_cons_succ, List.set_cons_zero]; rfl) ?_
  refine relPure Ext.refl rfl rfl rfl rfl (fun w _ => by go_simp; first | done | rfl) (by simp only [List.set_cons_succ, List.set_cons_zero]; rfl) ?_
  refine relPure Ext.refl rfl rfl rfl rfl (c := .agg (hcs z)) (fun w hw => exec_load_mid _ _ rfl bx (ox + i * 32) rfl (z.map bv) _ (rzz.out w (H3 w hw)) Tryd.underlying28 rfl (by rw [zv.out]; kernel_rfl)) (by simp only [List.set_cons_succ, List.set_cons_zero]; rfl) ?_
  refine relWord _ rfl (fun w hw => fill_none rfl (relOp_yes rfl ?_)) ?_
  · rw [exec_build1 Tryd.underlying23 infoHs32 zeroHs32 (by decide) (by decide) _ (z.map bv) zv.out _ rfl rfl]
    exact ⟨(Below.refl _ _).alloc (Nat.le_refl _) _, _, rfl, hw.drew.size, heap_alloc_new _ _⟩
  refine relEnd fun w6 hw6 => fill_take rfl rfl fun v hv => fill_end ?_
  obtain ⟨q, rfl, hq, aq⟩ := hv
  simp only [List.set_cons_succ, List.set_cons_zero, List.drop_succ_cons, List.drop_zero]
  have e6 := hw6.drew
  have a6 := a3.below e6
  have d6 := own_below d3 e6
  have v6 := own_below v3 e6
  have b6 := b3.trans (e6.mono b3.size)
  have hbs := b6.size
  have hle2 : (nh + 1) * 32 ≤ 140737488355328 := by omega
  go_wp2_with (at_builtin; refine wpList_appE Tryd.underlying23 infoHs32 zeroHs32 (by decide) v6 hbs (z.map bv) 1 1 aq.rd (by rw [zv.out]) zone.out (by omega) hle2 rfl (.tmp 38) (.tmp 49) rfl rfl rfl ?_; intro V7 w7 v7 gr7 ob7; obtain ⟨Av7, cv7, rfl, hcv7, _⟩ := own_form v7; have T7 := TOnly.ofGrown v6 gr7; have a7 := T7.av a6 (by decide); have d7 := T7.own d6 (by decide); have b7 := T7.below b6 (Nat.le_refl _) hbs; have f4 := frozen_of_row _ _ 4 _ _ a7; have c4 := a7.cell 4 _ rfl)
  have a8 := a7.set 4 (.slice Av7 (nh + 1) cv7)
  have b8 := b7.setCell (p := ⟨G, 4, none⟩) hBG (.slice Av7 (nh + 1) cv7)
  have d8 := own_fr d7 (Fr.setCell w7 ⟨G, 4, none⟩ (.slice Av7 (nh + 1) cv7)) (fun j e h => own_ne d7 a7 (by decide) (by rw [e, h]))
  have v8 := own_fr v7 (Fr.setCell w7 ⟨G, 4, none⟩ (.slice Av7 (nh + 1) cv7)) (fun j e h => own_ne v7 a7 (by decide) (by rw [e, h]))
  refine bodyPost_ret (results_none rfl _ _ _) rfl ⟨rfl, b8, .slice Ad (nd + 1) cd, .slice Av7 (nh + 1) cv7, a8, ?_, ?_⟩
  · rw [show (ds ++ [PV.mk (h' + 1) i false].map PV.d) = ds ++ [false] from rfl, List.length_append, ← hnd.out]
    exact d8
  · rw [show hh ++ pHs ls [PV.mk (h' + 1) i false] = hh ++ [z] by rw [hzz.out]; simp [pHs, PV.told, List.getD_eq_getElem?_getD, hx.out]]
    rw [hcl_append, hcl_one, List.length_append, ← hnh.out]
    exact v8
set_option maxRecDepth 100000 in
set_option maxHeartbeats 4000000 in
theorem MV_one (ms : List Bool) (nm cm : Nat) (Am : Option Addr) (n : Nat) (hnm : ms.length = nm) (hnm2 : nm ≤ 1000000) (_ : 0 < n) (hn : n ≤ 4096) (ls : List (List (List UInt8))) (ps : List (Option Addr × Nat)) (Al : Option Addr) (nl cl G : Nat) (w0 : World) (hrm : Rd w0 Am (ms.map Value.bool)) (_ : Rd w0 Al (scl ps ls)) (_ : LvAt w0 ps ls) (hnl : ls.length = nl) (_ : ∀ l ∈ ls, All32 l) (hBG : w0.heap.size ≤ G)
    (i : Nat) (i4 : i ≤ 4096) (ds : List Bool) (hh : List (List UInt8)) (D V : Value) (w : World) (hb : Below w0.heap.size w0 w) (hA : Av w G 76 (mkc n Am nm cm Al nl cl D V)) (oD : w.ownsRow w0.heap.size 4 1 D ds.length (ds.map Value.bool)) (oV : w.ownsRow w0.heap.size 28 32 V hh.length (hcl hh)) (hds : ds.length ≤ 50000) (_ : hh.length ≤ 50000)
    (h' : Nat) (h12 : (h' + 1) ≤ 12) (hV : pHas n ms (h' + 1) i = true)
    (c1 : Nat) (hc1 : ds.length + 1 ≤ c1) (hc2 : hh.length ≤ c1)
    (HV1 : ∀ (ds : List Bool) (hh : List (List UInt8)) (D V : Value) (w : World), ds.length ≤ c1 → hh.length ≤ c1 → Below w0.heap.size w0 w → Av w G 76 (mkc n Am nm cm Al nl cl D V) → w.ownsRow w0.heap.size 4 1 D ds.length (ds.map Value.bool) → w.ownsRow w0.heap.size 28 32 V hh.length (hcl hh) → Calls Tryd.prog 30 #[.pointer (some ⟨G, 0, none⟩), .int .i64 (h' : Int), .int .i64 (2 * (i : Int))] w (MVPost n Am nm cm Al nl cl G w0 ls ds hh (pVis n ms h' (2 * i))))
    (hw : ¬ 2 * i + 1 < pWd n h') :
    Calls Tryd.prog 30 #[.pointer (some ⟨G, 0, none⟩), .int .i64 ((h' : Int) + 1), .int .i64 (i : Int)] w (MVPost n Am nm cm Al nl cl G w0 ls ds hh (⟨h' + 1, i, true⟩ :: pVis n ms h' (2 * i))) := by
  have th : ((h' : Int) + 1 == 0) = false := by simp; omega
  have tw : decide (2 * (i : Int) + 1 < ((pWd n h' : Nat) : Int)) = false := decide_eq_false (by omega)
  have HW := fun w' => WidthR (n : Int) (h' : Int) w'
  rw [pWd_of n h' hn (by omega)] at HW
  generalize pWd n h' = wd at *
  replace HW := Lib.hid HW
  replace HV1 := Lib.hid HV1
  obtain ⟨s1, hs1⟩ : ∃ s, s = pVis n ms h' (2 * i) := ⟨_, rfl⟩
  rw [← hs1] at HV1 ⊢
  clear hs1
  have HH := HasR ms nm cm Am n (h' + 1) i hnm hnm2 hn h12 i4
  rw [hV] at HH
  rw [show ((h' + 1 : Nat) : Int) = (h' : Int) + 1 by omega] at HH
  replace HH := Lib.hid (fun w' (hE : Below w0.heap.size w0 w') => HH w' (hrm.below hE))
  have oDG := own_ne oD hA (by decide)
  have oVG := own_ne oV hA (by decide)
  replace oDG := Lib.hid oDG
  replace oVG := Lib.hid oVG
  replace hV := Lib.hid hV
  replace hnl := Lib.hid hnl
  replace hnm := Lib.hid hnm
  obtain ⟨nd, hnd⟩ : ∃ nd, nd = ds.length := ⟨_, rfl⟩
  rw [← hnd] at oD hds
  replace hnd := Lib.hid hnd
  go_enter Tryd.func30, Tryd.ntmps30
  go_wp2_with fail
  have H1 : ∀ w', Ext w.drew w' → Below w0.heap.size w0 w' := fun w' hE => hb.trans (hE.drew.mono hb.size)
  refine wp_region_rel [] Ext (by kernel_rfl) (by kernel_rfl) (by kernel_rfl) Ext.refl Ext.trans (by intro p hp; cases hp) ?_
  refine relMove Ext.refl rfl rfl rfl rfl _ (.inl rfl) (by conv => lhs; whnf) (by simp only [List.set_cons_succ, List.set_cons_zero]; rfl) ?_
  refine relPure Ext.refl rfl rfl rfl rfl (fun w _ => by go_simp; first | done | rfl) (by simp only [List.set_cons_succ, List.set_cons_zero]; rfl) ?_
  refine relPure Ext.refl rfl rfl rfl rfl (fun w _ => by go_simp; first | done | rfl) (by simp only [List.set_cons_succ, List.set_cons_zero]; rfl) ?_
  refine relPure Ext.refl rfl rfl rfl rfl (c := .int .i64 (n : Int)) (fun w hw => by have := (hA.below hw.drew).cell 0 _ rfl; go_simp; first | done | rfl) (by simp only [List.set_cons_succ, List.set_cons_zero]; rfl) ?_
  refine relMove Ext.refl rfl rfl rfl rfl _ (.inl rfl) (by conv => lhs; whnf) (by simp only [List.set_cons_succ, List.set_cons_zero]; rfl) ?_
  refine relPure Ext.refl rfl rfl rfl rfl (fun w _ => by go_simp; first | done | rfl) (by simp only [List.set_cons_succ, List.set_cons_zero]; rfl) ?_
  refine relPure Ext.refl rfl rfl rfl rfl (fun w _ => by go_simp; first | done | rfl) (by simp only [List.set_cons_succ, List.set_cons_zero]; rfl) ?_
  refine relPure Ext.refl rfl rfl rfl rfl (c := .slice Am nm cm) (fun w hw => by have := (hA.below hw.drew).cell 1 _ rfl; go_simp; first | done | rfl) (by simp only [List.set_cons_succ, List.set_cons_zero]; rfl) ?_
  refine relMove Ext.refl rfl rfl rfl rfl _ (.inl rfl) (by conv => lhs; whnf) (by simp only [List.set_cons_succ, List.set_cons_zero]; rfl) ?_
  refine relMove Ext.refl rfl rfl rfl rfl _ (.inl rfl) (by conv => lhs; whnf) (by simp only [List.set_cons_succ, List.set_cons_zero]; rfl) ?_
  refine relCall1 rfl rfl rfl rfl (c := .bool true) 48 #[.int .i64 (n : Int), .slice Am nm cm, (.int .i64 ((h' : Int) + 1)), .int .i64 (i : Int)] (fun w => by go_simp) (fun w hw => (HH.out w (H1 w hw)).mono (by rintro e w' ⟨rfl, rfl⟩; exact ⟨rfl, Ext.refl _⟩)) (by simp only [List.set_cons_succ, List.set_cons_zero]; rfl) ?_
  refine relMove Ext.refl rfl rfl rfl rfl _ (.inr rfl) (by conv => lhs; whnf) (by simp only [List.set_cons_succ, List.set_cons_zero]; rfl) ?_
  refine relEnd fun w1 hw1 => fill_end ?_
  have e1 := hw1.drew
  have a1 := hA.below e1
  have d1 := own_below oD e1
  have v1 := own_below oV e1
  have b1 := hb.trans (e1.mono hb.size)
  clear H1 hw1 e1 hA oD oV hb
  have hnw : w0.heap.size ≤ w1.heap.size := b1.size
  have c3 := a1.cell 3 _ rfl
  have bA := (Below.refl w1.heap.size w1).alloc (Nat.le_refl _) (.cells #[.bool true] 4)
  have aA := a1.below bA
  have dA := own_below d1 bA
  have vA := own_below v1 bA
  have bbA := b1.trans (bA.mono b1.size)
  have hle : (nd + 1) * 1 ≤ 140737488355328 := by omega
  go_upto_region 2 with (at_builtin; refine wpList_appE Tryd.underlying39 infoBlR zeroBlR (by decide) dA bbA.size [.bool true] 1 1 (Rd.one _ _ _) rfl (by simp [Value.oneCell']) (by omega) hle rfl (.tmp 22) (.tmp 24) rfl rfl rfl ?_; intro D2 w2 d2 gr2 ob2; obtain ⟨Ad, cd, rfl, hcd, _⟩ := own_form d2; have T2 := TOnly.ofGrown dA gr2; have a2 := T2.av aA (by decide); have v2 := T2.own vA (by decide); have b2 := T2.below bbA (Nat.le_refl _) bbA.size; have f3 := frozen_of_row _ _ 3 _ _ a2; have c3' := a2.cell 3 _ rfl)
  have a3 := a2.set 3 (.slice Ad (nd + 1) cd)
  have b3 := b2.setCell (p := ⟨G, 3, none⟩) hBG (.slice Ad (nd + 1) cd)
  have d3 := own_fr d2 (Fr.setCell w2 ⟨G, 3, none⟩ (.slice Ad (nd + 1) cd)) (fun j e h => own_ne d2 a2 (by decide) (by rw [e, h]))
  have v3 := own_fr v2 (Fr.setCell w2 ⟨G, 3, none⟩ (.slice Ad (nd + 1) cd)) (fun j e h => own_ne v2 a2 (by decide) (by rw [e, h]))
  clear T2 c3 c3' f3 gr2 ob2 aA dA vA bbA bA a1 d1 v1 b1 hnw
  generalize w2.setCell ⟨G, 3, none⟩ (.slice Ad (nd + 1) cd) = w3 at *
  clear a2 d2 v2 b2
  replace a3 : Av w3 G 76 (mkc n Am nm cm Al nl cl (.slice Ad (nd + 1) cd) V) := a3
  have hds3 : ds.map Value.bool ++ [.bool true] = (ds ++ [true]).map Value.bool := by simp
  rw [hds3] at d3
  have hnd1 : (ds ++ [true]).length = nd + 1 := by rw [List.length_append, hnd.out]; rfl
  go_wp2_with fail
  refine (HV1.out (ds ++ [true]) hh _ V w3 (by rw [List.length_append]; exact hc1) hc2 b3 a3 (by rw [hnd1]; exact d3) v3).mono ?_
  rintro e w4 ⟨rfl, b4, D4, V4, a4, d4, v4⟩
  clear HV1 a3 d3 v3 b3
  have c0 := a4.cell 0 _ rfl
  go_wp2_with (go_at_call 49; refine (HW.out _).mono ?_; rintro e w' ⟨rfl, hw'⟩; obtain rfl := hw'.symm)
  refine bodyPost_endN rfl rfl ⟨rfl, b4, D4, V4, a4, ?_, ?_⟩
  · rw [show ds ++ (PV.mk (h' + 1) i true :: s1).map PV.d = ds ++ [true] ++ s1.map PV.d by simp]
    exact d4
  · rw [show pHs ls (PV.mk (h' + 1) i true :: s1) = pHs ls s1 by simp [pHs, PV.told]]
    exact v4
set_option maxRecDepth 100000 in
set_option maxHeartbeats 4000000 in
theorem MV_two (ms : List Bool) (nm cm : Nat) (Am : Option Addr) (n : Nat) (hnm : ms.length = nm) (hnm2 : nm ≤ 1000000) (_ : 0 < n) (hn : n ≤ 4096) (ls : List (List (List UInt8))) (ps : List (Option Addr × Nat)) (Al : Option Addr) (nl cl G : Nat) (w0 : World) (hrm : Rd w0 Am (ms.map Value.bool)) (_ : Rd w0 Al (scl ps ls)) (_ : LvAt w0 ps ls) (hnl : ls.length = nl) (_ : ∀ l ∈ ls, All32 l) (hBG : w0.heap.size ≤ G)
    (i : Nat) (i4 : i ≤ 4096) (ds : List Bool) (hh : List (List UInt8)) (D V : Value) (w : World) (hb : Below w0.heap.size w0 w) (hA : Av w G 76 (mkc n Am nm cm Al nl cl D V)) (oD : w.ownsRow w0.heap.size 4 1 D ds.length (ds.map Value.bool)) (oV : w.ownsRow w0.heap.size 28 32 V hh.length (hcl hh)) (hds : ds.length ≤ 50000) (_ : hh.length ≤ 50000)
    (h' : Nat) (h12 : (h' + 1) ≤ 12) (hV : pHas n ms (h' + 1) i = true)
    (c1 : Nat) (hc1 : ds.length + 1 ≤ c1) (hc2 : hh.length ≤ c1) (c2 : Nat) (hl1 : c1 + (pVis n ms h' (2 * i)).length ≤ c2) (hl2 : ∀ s : List PV, (pHs ls s).length ≤ s.length)
    (HV1 : ∀ (ds : List Bool) (hh : List (List UInt8)) (D V : Value) (w : World), ds.length ≤ c1 → hh.length ≤ c1 → Below w0.heap.size w0 w → Av w G 76 (mkc n Am nm cm Al nl cl D V) → w.ownsRow w0.heap.size 4 1 D ds.length (ds.map Value.bool) → w.ownsRow w0.heap.size 28 32 V hh.length (hcl hh) → Calls Tryd.prog 30 #[.pointer (some ⟨G, 0, none⟩), .int .i64 (h' : Int), .int .i64 (2 * (i : Int))] w (MVPost n Am nm cm Al nl cl G w0 ls ds hh (pVis n ms h' (2 * i))))
    (HV2 : ∀ (ds : List Bool) (hh : List (List UInt8)) (D V : Value) (w : World), ds.length ≤ c2 → hh.length ≤ c2 → Below w0.heap.size w0 w → Av w G 76 (mkc n Am nm cm Al nl cl D V) → w.ownsRow w0.heap.size 4 1 D ds.length (ds.map Value.bool) → w.ownsRow w0.heap.size 28 32 V hh.length (hcl hh) → Calls Tryd.prog 30 #[.pointer (some ⟨G, 0, none⟩), .int .i64 (h' : Int), .int .i64 (2 * (i : Int) + 1)] w (MVPost n Am nm cm Al nl cl G w0 ls ds hh (pVis n ms h' (2 * i + 1))))
    (hw : 2 * i + 1 < pWd n h') :
    Calls Tryd.prog 30 #[.pointer (some ⟨G, 0, none⟩), .int .i64 ((h' : Int) + 1), .int .i64 (i : Int)] w (MVPost n Am nm cm Al nl cl G w0 ls ds hh (⟨h' + 1, i, true⟩ :: (pVis n ms h' (2 * i) ++ pVis n ms h' (2 * i + 1)))) := by
  have th : ((h' : Int) + 1 == 0) = false := by simp; omega
  have tw : decide (2 * (i : Int) + 1 < ((pWd n h' : Nat) : Int)) = true := decide_eq_true (by omega)
  have HW := fun w' => WidthR (n : Int) (h' : Int) w'
  rw [pWd_of n h' hn (by omega)] at HW
  generalize pWd n h' = wd at *
  replace HW := Lib.hid HW
  replace HV1 := Lib.hid HV1
  replace HV2 := Lib.hid HV2
  obtain ⟨s1, hs1⟩ : ∃ s, s = pVis n ms h' (2 * i) := ⟨_, rfl⟩
  rw [← hs1] at hl1 HV1 ⊢
  clear hs1
  obtain ⟨s2, hs2⟩ : ∃ s, s = pVis n ms h' (2 * i + 1) := ⟨_, rfl⟩
  rw [← hs2] at HV2 ⊢
  clear hs2
  have HH := HasR ms nm cm Am n (h' + 1) i hnm hnm2 hn h12 i4
  rw [hV] at HH
  rw [show ((h' + 1 : Nat) : Int) = (h' : Int) + 1 by omega] at HH
  replace HH := Lib.hid (fun w' (hE : Below w0.heap.size w0 w') => HH w' (hrm.below hE))
  have oDG := own_ne oD hA (by decide)
  have oVG := own_ne oV hA (by decide)
  replace oDG := Lib.hid oDG
  replace oVG := Lib.hid oVG
  replace hV := Lib.hid hV
  replace hnl := Lib.hid hnl
  replace hnm := Lib.hid hnm
  obtain ⟨nd, hnd⟩ : ∃ nd, nd = ds.length := ⟨_, rfl⟩
  rw [← hnd] at oD hds
  replace hnd := Lib.hid hnd
  go_enter Tryd.func30, Tryd.ntmps30
  go_wp2_with fail
  have H1 : ∀ w', Ext w.drew w' → Below w0.heap.size w0 w' := fun w' hE => hb.trans (hE.drew.mono hb.size)
  refine wp_region_rel [] Ext (by kernel_rfl) (by kernel_rfl) (by kernel_rfl) Ext.refl Ext.trans (by intro p hp; cases hp) ?_
  refine relMove Ext.refl rfl rfl rfl rfl _ (.inl rfl) (by conv => lhs; whnf) (by simp only [List.set_cons_succ, List.set_cons_zero]; rfl) ?_
  refine relPure Ext.refl rfl rfl rfl rfl (fun w _ => by go_simp; first | done | rfl) (by simp only [List.set_cons_succ, List.set_cons_zero]; rfl) ?_
  refine relPure Ext.refl rfl rfl rfl rfl (fun w _ => by go_simp; first | done | rfl) (by simp only [List.set_cons_succ, List.set_cons_zero]; rfl) ?_
  refine relPure Ext.refl rfl rfl rfl rfl (c := .int .i64 (n : Int)) (fun w hw => by have := (hA.below hw.drew).cell 0 _ rfl; go_simp; first | done | rfl) (by simp only [List.set_cons_succ, List.set_cons_zero]; rfl) ?_
  refine relMove Ext.refl rfl rfl rfl rfl _ (.inl rfl) (by conv => lhs; whnf) (by simp only [List.set_cons_succ, List.set_cons_zero]; rfl) ?_
  refine relPure Ext.refl rfl rfl rfl rfl (fun w _ => by go_simp; first | done | rfl) (by simp only [List.set_cons_succ, List.set_cons_zero]; rfl) ?_
  refine relPure Ext.refl rfl rfl rfl rfl (fun w _ => by go_simp; first | done | rfl) (by simp only [List.set_cons_succ, List.set_cons_zero]; rfl) ?_
  refine relPure Ext.refl rfl rfl rfl rfl (c := .slice Am nm cm) (fun w hw => by have := (hA.below hw.drew).cell 1 _ rfl; go_simp; first | done | rfl) (by simp only [List.set_cons_succ, List.set_cons_zero]; rfl) ?_
  refine relMove Ext.refl rfl rfl rfl rfl _ (.inl rfl) (by conv => lhs; whnf) (by simp only [List.set_cons_succ, List.set_cons_zero]; rfl) ?_
  refine relMove Ext.refl rfl rfl rfl rfl _ (.inl rfl) (by conv => lhs; whnf) (by simp only [List.set_cons_succ, List.set_cons_zero]; rfl) ?_
  refine relCall1 rfl rfl rfl rfl (c := .bool true) 48 #[.int .i64 (n : Int), .slice Am nm cm, (.int .i64 ((h' : Int) + 1)), .int .i64 (i : Int)] (fun w => by go_simp) (fun w hw => (HH.out w (H1 w hw)).mono (by rintro e w' ⟨rfl, rfl⟩; exact ⟨rfl, Ext.refl _⟩)) (by simp only [List.set_cons_succ, List.set_cons_zero]; rfl) ?_
  refine relMove Ext.refl rfl rfl rfl rfl _ (.inr rfl) (by conv => lhs; whnf) (by simp only [List.set_cons_succ, List.set_cons_zero]; rfl) ?_
  refine relEnd fun w1 hw1 => fill_end ?_
  have e1 := hw1.drew
  have a1 := hA.below e1
  have d1 := own_below oD e1
  have v1 := own_below oV e1
  have b1 := hb.trans (e1.mono hb.size)
  clear H1 hw1 e1 hA oD oV hb
  have hnw : w0.heap.size ≤ w1.heap.size := b1.size
  have c3 := a1.cell 3 _ rfl
  have bA := (Below.refl w1.heap.size w1).alloc (Nat.le_refl _) (.cells #[.bool true] 4)
  have aA := a1.below bA
  have dA := own_below d1 bA
  have vA := own_below v1 bA
  have bbA := b1.trans (bA.mono b1.size)
  have hle : (nd + 1) * 1 ≤ 140737488355328 := by omega
  go_upto_region 2 with (at_builtin; refine wpList_appE Tryd.underlying39 infoBlR zeroBlR (by decide) dA bbA.size [.bool true] 1 1 (Rd.one _ _ _) rfl (by simp [Value.oneCell']) (by omega) hle rfl (.tmp 22) (.tmp 24) rfl rfl rfl ?_; intro D2 w2 d2 gr2 ob2; obtain ⟨Ad, cd, rfl, hcd, _⟩ := own_form d2; have T2 := TOnly.ofGrown dA gr2; have a2 := T2.av aA (by decide); have v2 := T2.own vA (by decide); have b2 := T2.below bbA (Nat.le_refl _) bbA.size; have f3 := frozen_of_row _ _ 3 _ _ a2; have c3' := a2.cell 3 _ rfl)
  have a3 := a2.set 3 (.slice Ad (nd + 1) cd)
  have b3 := b2.setCell (p := ⟨G, 3, none⟩) hBG (.slice Ad (nd + 1) cd)
  have d3 := own_fr d2 (Fr.setCell w2 ⟨G, 3, none⟩ (.slice Ad (nd + 1) cd)) (fun j e h => own_ne d2 a2 (by decide) (by rw [e, h]))
  have v3 := own_fr v2 (Fr.setCell w2 ⟨G, 3, none⟩ (.slice Ad (nd + 1) cd)) (fun j e h => own_ne v2 a2 (by decide) (by rw [e, h]))
  clear T2 c3 c3' f3 gr2 ob2 aA dA vA bbA bA a1 d1 v1 b1 hnw
  generalize w2.setCell ⟨G, 3, none⟩ (.slice Ad (nd + 1) cd) = w3 at *
  clear a2 d2 v2 b2
  replace a3 : Av w3 G 76 (mkc n Am nm cm Al nl cl (.slice Ad (nd + 1) cd) V) := a3
  have hds3 : ds.map Value.bool ++ [.bool true] = (ds ++ [true]).map Value.bool := by simp
  rw [hds3] at d3
  have hnd1 : (ds ++ [true]).length = nd + 1 := by rw [List.length_append, hnd.out]; rfl
  go_wp2_with fail
  refine (HV1.out (ds ++ [true]) hh _ V w3 (by rw [List.length_append]; exact hc1) hc2 b3 a3 (by rw [hnd1]; exact d3) v3).mono ?_
  rintro e w4 ⟨rfl, b4, D4, V4, a4, d4, v4⟩
  clear HV1 a3 d3 v3 b3
  have c0 := a4.cell 0 _ rfl
  have hl3 := hl2 s1
  go_wp2_with (go_at_call 49; refine (HW.out _).mono ?_; rintro e w' ⟨rfl, hw'⟩; obtain rfl := hw'.symm)
  refine (HV2.out _ _ D4 V4 w4 (by simp only [List.length_append, List.length_map, List.length_cons, List.length_nil]; omega) (by simp only [List.length_append]; omega) b4 a4 d4 v4).mono ?_
  rintro e w5 ⟨rfl, b5, D5, V5, a5, d5, v5⟩
  go_wp2
  refine bodyPost_endN rfl rfl ⟨rfl, b5, D5, V5, a5, ?_, ?_⟩
  · rw [show ds ++ (PV.mk (h' + 1) i true :: (s1 ++ s2)).map PV.d = ds ++ [true] ++ s1.map PV.d ++ s2.map PV.d by simp]
    exact d5
  · rw [show hh ++ pHs ls (PV.mk (h' + 1) i true :: (s1 ++ s2)) = hh ++ pHs ls s1 ++ pHs ls s2 by simp [pHs, PV.told]]
    exact v5
end Go.Proofs.YtmdllemgjhkphaaDoor
