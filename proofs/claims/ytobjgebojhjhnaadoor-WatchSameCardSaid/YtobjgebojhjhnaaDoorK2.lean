import Derived.Test.YtobjgebojhjhnaaDoorQr20
import Derived.Test.YtobjgebojhjhnaaDoorSam
namespace Go.Proofs.YtobjgebojhjhnaaDoor
open Go.RowKit
set_option maxRecDepth 10000 in
set_option maxHeartbeats 4000000 in
theorem RSame (S1 S2 : List (List UInt8 × Sl)) (hSS : S1.map (·.1) = S2.map (·.1)) (T : List (List UInt8)) (N : List Sn) (As At An As2 At2 An2 : Option Addr) (ns cs cs2 nt ct ct2 nn cn cn2 : Nat) (hS : S1.length = ns) (hns : ns ≤ 1000000) (hT : T.length = nt) (hnt : nt ≤ 100000) (hN : N.length = nn) (hnn : nn ≤ 1000000)
  (w : World) (r1 : RdBss w As S1) (r2 : RdBss w As2 S2) (t1 : RdHs w At T) (t2 : RdHs w At2 T) (q1 : RdSns w An N) (q2 : RdSns w An2 N) :
  Calls Tryd.prog 24 #[.agg (wtc As At An ns cs nt ct nn cn).toArray, .agg (wtc As2 At2 An2 ns cs2 nt ct2 nn cn2).toArray] w fun e w' => e = .returned (.bool true) ∧ Below w.heap.size w w' := by
 have hS2 : S2.length = ns := by rw [← hS]; have := congrArg List.length hSS; simpa using this.symm
 have HS := fun w' (a : RdHs w' At T) (b : RdHs w' At2 T) => SameH T T a.2 b.2 At At2 nt nt ct ct2 hT hT hnt hnt w' a.1 b.1
 simp only [beq_self_eq_true] at HS
 obtain ⟨W, hW⟩ : ∃ W, W = (w.alloc (.cells (wtc As At An ns cs nt ct nn cn).toArray 26)).alloc (.cells (wtc As2 At2 An2 ns cs2 nt ct2 nn cn2).toArray 26) := ⟨_, rfl⟩
 obtain ⟨H, hH⟩ : ∃ H, H = w.heap.size := ⟨_, rfl⟩
 have aW : Av W H 26 (wtc As At An ns cs nt ct nn cn) := by rw [hW, hH]; exact heap_alloc2_old _ _ _
 have zW : Av W (H + 1) 26 (wtc As2 At2 An2 ns cs2 nt ct2 nn cn2) := by rw [hW, hH]; exact heap_alloc2_new _ _ _
 have bW : Below w.heap.size w W := by rw [hW]; exact ((Below.refl _ _).alloc (Nat.le_refl _) _).alloc (by simp) _
 have tW1 := t1.below bW
 have tW2 := t2.below bW
 have f0 := aW.cell 0 (.slice As ns cs) rfl
 have f1 := aW.cell 1 (.slice At nt ct) rfl
 have f2 := aW.cell 2 (.slice An nn cn) rfl
 have g0 := zW.cell 0 (.slice As2 ns cs2) rfl
 have g1 := zW.cell 1 (.slice At2 nt ct2) rfl
 have g2 := zW.cell 2 (.slice An2 nn cn2) rfl
 replace HS := Lib.hid HS
 replace hW := Lib.hid hW
 replace hH := Lib.hid hH
 replace hS := Lib.hid hS
 replace hS2 := Lib.hid hS2
 replace hT := Lib.hid hT
 replace hN := Lib.hid hN
 replace hSS := Lib.hid hSS
 go_enter Tryd.func24, Tryd.ntmps24
 go_upto_region 1 with fail
 rw [← hW.out, ← hH.out]
 go_upto_region 3 with (go_at_call 50; refine (HS.out W tW1 tW2).mono ?_; rintro e w1 ⟨rfl, b1⟩; have h2 := (aW.below b1).cell 2 (.slice An nn cn) rfl; have k2 := (zW.below b1).cell 2 (.slice An2 nn cn2) rfl)
 have B1 := bW.trans (b1.mono bW.size)
 have a1 := aW.below b1
 have z1 := zW.below b1
 clear f0 f1 f2 g0 g1 g2 h2 k2
 go_wp2
 go_loopw [5] (fun iv wr => ∃ i : Nat, i ≤ ns ∧ iv = .int .i64 (i : Int) ∧ Below w1.heap.size w1 wr) (fun iv _ => ns - (intOf iv).toNat)
 case atStart => exact ⟨0, by omega, rfl, Below.refl _ _⟩
 case round =>
  obtain ⟨i, hi, rfl, br⟩ := hrel
  have d1 := (a1.below br).cell 0 (.slice As ns cs) rfl
  by_cases hlt : i < ns
  ·have u1 : decide ((i : Int) < (ns : Int)) = true := by simp; omega
   have n0 : 0 ≤ (i : Int) := by omega
   have n1 : (i : Int) < (ns : Int) := by omega
   obtain ⟨⟨y, A1, cA1⟩, h1⟩ : ∃ e, S1[i]? = some e := ⟨_, List.getElem?_eq_getElem (by rw [hS.out]; exact hlt)⟩
   obtain ⟨⟨y2, A2, cA2⟩, h2⟩ : ∃ e, S2[i]? = some e := ⟨_, List.getElem?_eq_getElem (by rw [hS2.out]; exact hlt)⟩
   obtain rfl : y = y2 := by
    have q := congrArg (fun l => l[i]?) hSS.out
    simp only [List.getElem?_map, h1, h2, Option.map_some, Option.some.injEq] at q
    exact q
   obtain ⟨b1, o1, rfl⟩ := r1.adr (by rw [hS.out]; omega)
   obtain ⟨b2, o2, rfl⟩ := r2.adr (by rw [hS2.out]; omega)
   have D1 : ∀ w', Below w1.heap.size w1 w' → w'.cell? ⟨H, 0, none⟩ = some (.slice (some ⟨b1, o1, none⟩) ns cs) := fun w' b => (a1.below b).cell 0 _ rfl
   have D2 : ∀ w', Below w1.heap.size w1 w' → w'.cell? ⟨H + 1, 0, none⟩ = some (.slice (some ⟨b2, o2, none⟩) ns cs2) := fun w' b => (z1.below b).cell 0 _ rfl
   have E1 : ∀ w', Below w1.heap.size w1 w' → w'.cell? ⟨b1, o1 + i, none⟩ = some (.slice A1 y.length cA1) := fun w' b => (((r1.below B1).below b).nth i _ h1).1
   have E2 : ∀ w', Below w1.heap.size w1 w' → w'.cell? ⟨b2, o2 + i, none⟩ = some (.slice A2 y.length cA2) := fun w' b => (((r2.below B1).below b).nth i _ h2).1
   have G1 : ∀ w', Below w1.heap.size w1 w' → Rd w' A1 (y.map bv) := fun w' b => (((r1.below B1).below b).nth i _ h1).2.1
   have G2 : ∀ w', Below w1.heap.size w1 w' → Rd w' A2 (y.map bv) := fun w' b => (((r2.below B1).below b).nth i _ h2).2.1
   clear h1 h2
   replace D1 := Lib.hid D1
   replace D2 := Lib.hid D2
   replace E1 := Lib.hid E1
   replace E2 := Lib.hid E2
   replace G1 := Lib.hid G1
   replace G2 := Lib.hid G2
   go_upto_region 6 with fail
   refine wp_region_rel [] Ext (by kernel_rfl) (by kernel_rfl) (by kernel_rfl) Ext.refl Ext.trans (by intro p hp; cases hp) ?_
   refine ZP (c := .pointer (some ⟨H, 0, none⟩)) (fun w _ => by go_simp; first | done | rfl) ?_
   refine ZP (c := .slice (some ⟨b1, o1, none⟩) ns cs) (fun w hw => by have := D1.out _ (br.trans (hw.drew.mono br.size)); go_simp; first | done | rfl) ?_
   refine ZM ?_
   refine ZP (c := .pointer (some ⟨b1, o1 + i, none⟩)) (fun w _ => by have := n0; have := n1; go_simp; first | done | rfl) ?_
   refine ZP (c := .slice A1 y.length cA1) (fun w hw => by have := E1.out _ (br.trans (hw.drew.mono br.size)); go_simp; first | done | rfl) ?_
   refine relStr rfl rfl rfl rfl _ rfl rfl y rfl (fun w hw => G1.out _ (br.trans (hw.drew.mono br.size))) (by simp only [Zs]; rfl) ?_
   refine ZP (c := .pointer (some ⟨H + 1, 0, none⟩)) (fun w _ => by go_simp; first | done | rfl) ?_
   refine ZP (c := .slice (some ⟨b2, o2, none⟩) ns cs2) (fun w hw => by have := D2.out _ (br.trans (hw.drew.mono br.size)); go_simp; first | done | rfl) ?_
   refine ZM ?_
   refine ZP (c := .pointer (some ⟨b2, o2 + i, none⟩)) (fun w _ => by have := n0; have := n1; go_simp; first | done | rfl) ?_
   refine ZP (c := .slice A2 y.length cA2) (fun w hw => by have := E2.out _ (br.trans (hw.drew.mono br.size)); go_simp; first | done | rfl) ?_
   refine relStr rfl rfl rfl rfl _ rfl rfl y rfl (fun w hw => G2.out _ (br.trans (hw.drew.mono br.size))) (by simp only [Zs]; rfl) ?_
   refine ZP (c := .bool false) (fun w _ => by go_simp; first | done | rfl) ?_
   refine relEnd fun w2 hw2 => fill_end ?_
   have b2 := br.trans (hw2.drew.mono br.size)
   go_wp2
   refine ⟨⟨i + 1, by omega, by go_num, b2⟩, ?_⟩
   simp only [intOf]
   omega
  ·obtain rfl : i = ns := by omega
   have u1 : decide ((i : Int) < (i : Int)) = false := by simp
   obtain ⟨w2, hw2⟩ : ∃ w2 : World, w2 = wr := ⟨_, rfl⟩
   subst hw2
   have b2 := br
   clear br
   go_wp2
   clear d1
   go_loopw [6] (fun iv wr => ∃ i : Nat, i ≤ nn ∧ iv = .int .i64 (i : Int) ∧ Below w1.heap.size w1 wr) (fun iv _ => nn - (intOf iv).toNat)
   case atStart => exact ⟨0, by omega, rfl, b2⟩
   case round =>
    clear u1 hi
    obtain ⟨i, hi, rfl, br⟩ := hrel
    have d1 := (a1.below br).cell 2 (.slice An nn cn) rfl
    by_cases hlt : i < nn
    ·have u1 : decide ((i : Int) < (nn : Int)) = true := by simp; omega
     have n0 : 0 ≤ (i : Int) := by omega
     have n1 : (i : Int) < (nn : Int) := by omega
     obtain ⟨x, hx⟩ : ∃ e, N[i]? = some e := ⟨_, List.getElem?_eq_getElem (by rw [hN.out]; exact hlt)⟩
     have xok := q1.2 x (List.mem_of_getElem? hx)
     have x65 := Lib.hid (snc_length xok)
     obtain ⟨b1, o1, rfl⟩ := q1.adr (by rw [hN.out]; omega)
     obtain ⟨b2, o2, rfl⟩ := q2.adr (by rw [hN.out]; omega)
     have D1 : ∀ w', Below w1.heap.size w1 w' → w'.cell? ⟨H, 2, none⟩ = some (.slice (some ⟨b1, o1, none⟩) nn cn) := fun w' b => (a1.below b).cell 2 _ rfl
     have D2 : ∀ w', Below w1.heap.size w1 w' → w'.cell? ⟨H + 1, 2, none⟩ = some (.slice (some ⟨b2, o2, none⟩) nn cn2) := fun w' b => (z1.below b).cell 2 _ rfl
     have R1 : ∀ w', Below w1.heap.size w1 w' → w'.rangeAt b1 (o1 + i * 65) (snc x) := fun w' b => (((q1.below B1).below b).nth i x hx).1
     have R2 : ∀ w', Below w1.heap.size w1 w' → w'.rangeAt b2 (o2 + i * 65) (snc x) := fun w' b => (((q2.below B1).below b).nth i x hx).1
     have EN := fun p q w => neqSnr xok xok p q w
     simp only [beq_self_eq_true, Bool.not_true] at EN
     clear hx
     replace D1 := Lib.hid D1
     replace D2 := Lib.hid D2
     replace R1 := Lib.hid R1
     replace R2 := Lib.hid R2
     replace EN := Lib.hid EN
     go_upto_region 11 with fail
     refine wp_region_rel [] Ext (by kernel_rfl) (by kernel_rfl) (by kernel_rfl) Ext.refl Ext.trans (by intro p hp; cases hp) ?_
     refine ZP (c := .pointer (some ⟨H, 2, none⟩)) (fun w _ => by go_simp; first | done | rfl) ?_
     refine ZP (c := .slice (some ⟨b1, o1, none⟩) nn cn) (fun w hw => by have := D1.out _ (br.trans (hw.drew.mono br.size)); go_simp; first | done | rfl) ?_
     refine ZM ?_
     refine ZP (c := .pointer (some ⟨b1, o1 + i * 65, none⟩)) (fun w _ => by have := n0; have := n1; go_simp; first | done | rfl) ?_
     refine ZP (c := .agg (snc x).toArray) (fun w hw => exec_load_mid _ _ rfl b1 (o1 + i * 65) rfl (snc x) _ (R1.out _ (br.trans (hw.drew.mono br.size))) Tryd.underlying59 rfl (by rw [x65.out]; kernel_rfl)) ?_
     refine ZP (c := .pointer (some ⟨H + 1, 2, none⟩)) (fun w _ => by go_simp; first | done | rfl) ?_
     refine ZP (c := .slice (some ⟨b2, o2, none⟩) nn cn2) (fun w hw => by have := D2.out _ (br.trans (hw.drew.mono br.size)); go_simp; first | done | rfl) ?_
     refine ZM ?_
     refine ZP (c := .pointer (some ⟨b2, o2 + i * 65, none⟩)) (fun w _ => by have := n0; have := n1; go_simp; first | done | rfl) ?_
     refine ZP (c := .agg (snc x).toArray) (fun w hw => exec_load_mid _ _ rfl b2 (o2 + i * 65) rfl (snc x) _ (R2.out _ (br.trans (hw.drew.mono br.size))) Tryd.underlying59 rfl (by rw [x65.out]; kernel_rfl)) ?_
     refine relBin Ext.refl rfl rfl rfl rfl _ _ _ _ _ rfl (by conv => lhs; whnf) (by conv => lhs; whnf) (c := .bool false) (fun w => EN.out _ _ w) (by simp only [Zs]; rfl) ?_
     refine relEnd fun w2 hw2 => fill_end ?_
     have b2 := br.trans (hw2.drew.mono br.size)
     go_wp2
     refine ⟨⟨i + 1, by omega, by go_num, b2⟩, ?_⟩
     simp only [intOf]
     omega
    ·obtain rfl : i = nn := by omega
     have u1 : decide ((i : Int) < (i : Int)) = false := by simp
     go_wp2
     go_ret
     exact ⟨rfl, B1.trans (br.mono B1.size)⟩
def wSkip (T : List (List UInt8)) (I : List UInt8) (L : List Sn) (m : Nat × List UInt8) : Bool := decide (4096 ≤ L.length) || !(T.contains m.2) || L.contains ⟨m.2, I, (m.1 : Int)⟩
theorem wStep_skip {T : List (List UInt8)} {I : List UInt8} {a : List Sn × Nat} {m : Nat × List UInt8} (h : wSkip T I a.1 m = true) : wStep T I a m = a := by
 unfold wStep
 unfold wSkip at h
 rw [if_pos h]
theorem wSkip_app {T : List (List UInt8)} {I : List UInt8} {L D : List Sn} {m : Nat × List UInt8} (h : wSkip T I L m = true) : wSkip T I (L ++ D) m = true := by
 unfold wSkip at h ⊢
 simp only [Bool.or_eq_true, decide_eq_true_eq, List.length_append, List.contains_iff_mem, List.mem_append] at h ⊢
 rcases h with (h | h) | h
 ·exact .inl (.inl (by omega))
 ·exact .inl (.inr h)
 ·exact .inr (.inl h)
theorem wStep_app (T : List (List UInt8)) (I : List UInt8) (a : List Sn × Nat) (m : Nat × List UInt8) : (∃ D, (wStep T I a m).1 = a.1 ++ D) ∧ wSkip T I (wStep T I a m).1 m = true := by
 cases h : wSkip T I a.1 m with
 | true => rw [wStep_skip h]; exact ⟨⟨[], by simp⟩, h⟩
 | false =>
  have e : wStep T I a m = (a.1 ++ [⟨m.2, I, (m.1 : Int)⟩], a.2 + 1) := by
   unfold wStep
   unfold wSkip at h
   rw [if_neg (by rw [h]; simp)]
  rw [e]
  refine ⟨⟨_, rfl⟩, ?_⟩
  unfold wSkip
  simp
theorem wFold_skip (T : List (List UInt8)) (I : List UInt8) : ∀ (ms : List (Nat × List UInt8)) (a : List Sn × Nat), (∃ D, (ms.foldl (wStep T I) a).1 = a.1 ++ D) ∧ ∀ m ∈ ms, wSkip T I (ms.foldl (wStep T I) a).1 m = true
 | [], a => ⟨⟨[], by simp⟩, fun _ h => by cases h⟩
 | m :: ms, a => by
  rw [List.foldl_cons]
  obtain ⟨⟨D1, h1⟩, h2⟩ := wStep_app T I a m
  obtain ⟨⟨D2, h3⟩, h4⟩ := wFold_skip T I ms (wStep T I a m)
  refine ⟨⟨D1 ++ D2, by rw [h3, h1, List.append_assoc]⟩, fun x hx => ?_⟩
  rcases List.mem_cons.1 hx with rfl | hx
  ·rw [h3]
   exact wSkip_app h2
  ·exact h4 x hx
theorem wFold_still {T : List (List UInt8)} {I : List UInt8} : ∀ {ms : List (Nat × List UInt8)} {a : List Sn × Nat} (_ : ∀ m ∈ ms, wSkip T I a.1 m = true), ms.foldl (wStep T I) a = a
 | [], _, _ => rfl
 | m :: ms, a, h => by
  rw [List.foldl_cons, wStep_skip (h m (List.mem_cons_self ..))]
  exact wFold_still fun x hx => h x (List.mem_cons_of_mem _ hx)
theorem wProve_again {ds : List Nd} {T : List (List UInt8)} {N : List Sn} {h : Hd} {tot : Nat} {hs : List (List UInt8)} {fl : List UInt8} {L : List Sn} {k e : Nat} (hp : wProve ds T N h tot hs fl = (L, k, e)) : wProve ds T L h tot hs fl = (L, 0, e) := by
 unfold wProve at hp ⊢
 split at hp
 ·injection hp with h1 h2
  injection h2 with h2 h3
  rw [h3]
 ·split at hp
  ·injection hp with h1 h2
   injection h2 with h2 h3
   rw [h3]
  ·rename_i r _
   split at hp
   ·injection hp with h1 h2
    injection h2 with h2 h3
    have q := (wFold_skip T (hdId h) r.l (N, 0)).2
    have e1 : (r.l.foldl (wStep T (hdId h)) (N, 0)).1 = L := h1
    rw [e1] at q
    have e2 : wSeen T (hdId h) r.l L = (L, 0) := wFold_still (a := (L, 0)) q
    rename_i hr
    rw [if_pos hr, e2, h3]
   ·injection hp with h1 h2
    injection h2 with h2 h3
    rename_i hr
    rw [if_neg hr, h3]
theorem wProve_orph {ds : List Nd} {T : List (List UInt8)} {N : List Sn} {h : Hd} {tot : Nat} {hs : List (List UInt8)} {fl : List UInt8} {L : List Sn} {k e : Nat} (hp : wProve ds T N h tot hs fl = (L, k, e)) (hf : (tFind ds (hdId h)).isSome = false) : e = 9 := by
 unfold wProve at hp
 rw [Option.isSome_eq_false_iff, Option.isNone_iff_eq_none] at hf
 rw [hf] at hp
 injection hp with _ hp
 injection hp with _ hp
 exact hp.symm
end Go.Proofs.YtobjgebojhjhnaaDoor
