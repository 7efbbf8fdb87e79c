/- florinref12.walker.visit: a node with nodes below; all nodes. -/
import Derived.Test.YtdkknincamkhpaaDoorU1
import Derived.Test.YtdkknincamkhpaaDoorMvf
namespace Go.Proofs.YtdkknincamkhpaaDoor
open Go.RowKit
attribute [local go_sem high] slB_lh slB_l slB_h
/-- a climber as it lies: what it was made of is as it was; its path is its own row, made since it was -/
structure WInv (w0 : World) (C tot : Nat) (Ah : Option Addr) (nh ch : Nat) (Af : Option Addr) (nf cf : Nat) (pos d k : Nat) (v : Value) (p : List (List UInt8)) (w : World) : Prop where
  below : Below w0.heap.size w0 w
  av : Av w C 76 (clc tot Ah nh ch Af nf cf (pos : Int) d k v)
  own : w.ownsRow (C + 1) 28 32 v p.length (hcl p)
section
variable {w0 w w' : World} {C tot : Nat} {Ah : Option Addr} {nh ch : Nat} {Af : Option Addr} {nf cf pos d k : Nat} {v : Value} {p : List (List UInt8)}
theorem WInv.ownlt (h : WInv w0 C tot Ah nh ch Af nf cf pos d k v p w) : ∀ j, v.ownBlock = some j → C < j ∧ j < w.heap.size := by
  intro j hj
  have := World.ownsRow.lt h.own j hj
  omega
theorem WInv.ownC (h : WInv w0 C tot Ah nh ch Af nf cf pos d k v p w) : v.ownBlock ≠ some C := by
  intro e
  have := h.ownlt _ e
  omega
theorem WInv.ownGe (h : WInv w0 C tot Ah nh ch Af nf cf pos d k v p w) (g : Nat) (hg : w.heap.size ≤ g) : v.ownBlock ≠ some g := by
  intro e
  have := h.ownlt _ e
  omega
theorem WInv.ext (h : WInv w0 C tot Ah nh ch Af nf cf pos d k v p w) (b : Below w.heap.size w w') : WInv w0 C tot Ah nh ch Af nf cf pos d k v p w' := ⟨h.below.trans (b.mono h.below.size), h.av.below b, own_below h.own b⟩
theorem WInv.fr1 (h : WInv w0 C tot Ah nh ch Af nf cf pos d k v p w) (hC0 : w0.heap.size ≤ C) {G : Nat} (f : Fr (fun j => j = G) w w') (hG : C < G) (hv : v.ownBlock ≠ some G) : WInv w0 C tot Ah nh ch Af nf cf pos d k v p w' :=
  ⟨h.below.trans (f.below (fun j e => by omega) h.below.size), f.av h.av (by omega), own_fr h.own f (fun j e q => hv (by rw [e, q]))⟩
end
theorem WInv.app {w0 w w1 : World} {C tot : Nat} {Ah : Option Addr} {nh ch : Nat} {Af : Option Addr} {nf cf pos d k : Nat} {v v1 : Value} {p : List (List UInt8)} (x : List UInt8) (h : WInv w0 C tot Ah nh ch Af nf cf pos d k v p w) (hC0 : w0.heap.size ≤ C)
    (oh : w1.ownsRow (C + 1) 28 32 v1 (p.length + 1) (hcl p ++ x.map bv)) (gr : w.grownBy w1 v.ownBlock) (ob : v1.ownBlock = v.ownBlock ∨ v1.ownBlock = some w.heap.size) : WInv w0 C tot Ah nh ch Af nf cf pos d k v1 (p ++ [x]) (w1.setCell ⟨C, 6, none⟩ v1) := by
  have fg := Fr.of_grown gr
  have a1 := fg.av h.av (fun e => h.ownC e.symm)
  have fs := Fr.setCell w1 ⟨C, 6, none⟩ v1
  have n1 : v1.ownBlock ≠ some C := by
    rcases ob with e | e
    · rw [e]; exact h.ownC
    · rw [e]; intro e2; injection e2 with e2; have := h.av.lt; omega
  refine ⟨?_, a1.set 6 v1, ?_⟩
  · exact (h.below.trans (fg.below (fun j e => by have := h.ownlt j e.symm; omega) h.below.size)).trans (fs.below (fun j e => by rw [e]; exact hC0) (h.below.trans (fg.below (fun j e => by have := h.ownlt j e.symm; omega) h.below.size)).size)
  · have q1 : (p ++ [x]).length = p.length + 1 := by rw [List.length_append]; rfl
    have q2 : hcl (p ++ [x]) = hcl p ++ x.map bv := by simp [hcl]
    rw [q1, q2]
    exact own_fr oh fs (fun j e q => n1 (by rw [e, q]))
/-- what a node leaves -/
def WdPost (w0 : World) (C tot : Nat) (Ah : Option Addr) (nh ch : Nat) (Af : Option Addr) (nf cf : Nat) (pos : Nat) (v : Value) (p q : List (List UInt8)) (w : World) (d k : Nat) (x : List UInt8) (e : Ending) (w' : World) : Prop :=
  e = .returned (.agg (hcs x)) ∧ ∃ v', WInv w0 C tot Ah nh ch Af nf cf pos d k v' (p ++ q) w' ∧ NKeep C v v' w w'
set_option maxRecDepth 100000 in
set_option maxHeartbeats 16000000 in
theorem WNode_two (fl : List UInt8) (hs : List (List UInt8)) (_ : All32 hs) (tot : Nat) (Ah : Option Addr) (nh ch : Nat) (Af : Option Addr) (nf cf : Nat) (pos : Nat) (C : Nat) (hnh : hs.length = nh) (hnf : fl.length = nf) (hnf2 : nf ≤ 10000) (_ : nh ≤ 10000) (w0 : World) (hC0 : w0.heap.size ≤ C) (_ : Rd w0 Ah (hcl hs)) (hrf : Rd w0 Af (fl.map bv)) (d k : Nat) (hd : pDig fl d = some true) (h i : Nat) (hh : h ≤ 12) (hi : i ≤ 100000) (htot : tot ≤ 4096) (hpos : pos ≤ 100000) (hwd : 2 * i + 1 < pWd tot h) (ax bx : List UInt8) (ad ak bd bk : Nat) (ha0 : ax.length = 32) (hb0 : bx.length = 32) (qa qb qc : List (List UInt8)) (hside : (pos / 2 ^ h = 2 * i ∧ qc = [bx]) ∨ (pos / 2 ^ h = 2 * i + 1 ∧ qc = [ax]) ∨ (pos / 2 ^ h ≠ 2 * i ∧ pos / 2 ^ h ≠ 2 * i + 1 ∧ qc = []))
    (v : Value) (p : List (List UInt8)) (hpl : p.length + qa.length + qb.length ≤ 1000000)
    (HL : ∀ w, WInv w0 C tot Ah nh ch Af nf cf pos (d + 1) k v p w → Calls Tryd.prog 34 #[.pointer (some ⟨C, 0, none⟩), .int .i64 (h : Int), .int .i64 (2 * (i : Int))] w (WdPost w0 C tot Ah nh ch Af nf cf pos v p qa w ad ak ax))
    (HR : ∀ v w, WInv w0 C tot Ah nh ch Af nf cf pos ad ak v (p ++ qa) w → Calls Tryd.prog 34 #[.pointer (some ⟨C, 0, none⟩), .int .i64 (h : Int), .int .i64 (2 * (i : Int) + 1)] w (WdPost w0 C tot Ah nh ch Af nf cf pos v (p ++ qa) qb w bd bk bx))
    (w : World) (hN : WInv w0 C tot Ah nh ch Af nf cf pos d k v p w) :
    Calls Tryd.prog 34 #[.pointer (some ⟨C, 0, none⟩), .int .i64 ((h : Int) + 1), .int .i64 (i : Int)] w (WdPost w0 C tot Ah nh ch Af nf cf pos v p (qa ++ qb ++ qc) w bd bk (pairB ax bx)) := by
  have hpl2 : (p ++ qa ++ qb).length ≤ 1000000 := by rw [List.length_append, List.length_append]; exact hpl
  have hA := hN.av
  have hbw := hN.below
  have hNo := hN.own
  have hNC := hN.ownC
  have hNg := fun g hg => hN.ownGe g hg
  have av32 : (ax.map bv).length = 32 := by rw [List.length_map, ha0]
  have bv32 : (bx.map bv).length = 32 := by rw [List.length_map, hb0]
  have aone : (ax.map bv).all (·.oneCell') = true := List.all_eq_true.2 (bv_one ax)
  have bone : (bx.map bv).all (·.oneCell') = true := List.all_eq_true.2 (bv_one bx)
  have HP := fun w => PairR ax bx ha0 hb0 w
  obtain ⟨z, hzp⟩ : ∃ z, z = pairB ax bx := ⟨_, rfl⟩
  have hz32 : z.length = 32 := by rw [hzp]; exact pairB_length ax bx
  rw [← hzp] at HP ⊢
  have zv32 : (z.map bv).length = 32 := by rw [List.length_map, hz32]
  have zone : (z.map bv).all (·.oneCell') = true := List.all_eq_true.2 (bv_one z)
  have HW := fun w => WidthR (tot : Int) (h : Int) w
  rw [pWd_of tot h htot hh] at HW
  obtain ⟨P, hP⟩ : ∃ P : Int, P = (pWd tot h : Int) := ⟨_, rfl⟩
  have t2 : decide (2 * (i : Int) + 1 < P) = true := by simp; omega
  rw [← hP] at HW
  obtain ⟨S, hS⟩ : ∃ S, S = pos / 2 ^ h := ⟨_, rfl⟩
  rw [← hS] at hside
  have hSb : S ≤ 100000 := Nat.le_trans (by rw [hS]; exact Nat.div_le_self _ _) hpos
  obtain ⟨p2, hp2⟩ : ∃ p2, p2 = p ++ qa ++ qb := ⟨_, rfl⟩
  rw [← hp2] at hpl2
  replace hp2 := Lib.hid hp2
  replace hP := Lib.hid hP
  replace hS := Lib.hid hS
  replace HW := Lib.hid HW
  replace HP := Lib.hid HP
  replace hzp := Lib.hid hzp
  replace hz32 := Lib.hid hz32
  replace ha0 := Lib.hid ha0
  replace hb0 := Lib.hid hb0
  replace av32 := Lib.hid av32
  replace bv32 := Lib.hid bv32
  replace zv32 := Lib.hid zv32
  replace aone := Lib.hid aone
  replace bone := Lib.hid bone
  replace zone := Lib.hid zone
  replace hside := Lib.hid hside
  replace hNC := Lib.hid hNC
  replace hNg := Lib.hid hNg
  have t1 : (((h : Int) + 1) == 0) = false := by simp; omega
  replace HL := Lib.hid HL
  replace HR := Lib.hid HR
  unfold clc at hA
  have hlt := pDig_some hd
  obtain ⟨x0, hg, hv⟩ := dig_val hd
  obtain ⟨q, hq⟩ : ∃ q, q = d / 8 := ⟨_, rfl⟩
  obtain ⟨s, hs0⟩ : ∃ s, s = d % 8 := ⟨_, rfl⟩
  have e1 : (d : Int) / 8 = (q : Int) := by omega
  have e2 : (d : Int) % 8 = (s : Int) := by omega
  have s0 : (0 : Int) ≤ (s : Int) := by omega
  have s8 : (s : Int) < 8 := by omega
  have hqn : (q : Int) < (nf : Int) := by omega
  have q0 : (0 : Int) ≤ (q : Int) := by omega
  rw [← hq] at hg
  rw [← hs0] at hv
  have hfne : fl.map bv ≠ [] := by intro h; have := congrArg List.length h; rw [List.length_map, hnf] at this; simp at this; omega
  obtain ⟨fb, fo, e⟩ := hrf.someA hfne
  subst e
  have hcell : ∀ w', Rd w' (some ⟨fb, fo, none⟩) (fl.map bv) → w'.cell? ⟨fb, fo + q, none⟩ = some (bv x0) := by
    intro w' h
    rcases h with h | ⟨b', o', hA', hc⟩
    · exact absurd h hfne
    · cases hA'
      exact hc q _ (by rw [List.getElem?_map, hg]; rfl)
  have hz := zeros_32
  rw [show List.replicate 32 (0 : UInt8) = zs32 from rfl] at hz
  obtain ⟨W, hW⟩ : ∃ W, W = w.alloc (.cells (zs32.map bv).toArray 28) := ⟨_, rfl⟩
  obtain ⟨H, hH⟩ : ∃ H, H = w.heap.size := ⟨_, rfl⟩
  have bW : Below w.heap.size w W := by rw [hW]; exact (Below.refl _ _).alloc (Nat.le_refl _) _
  have aH : Av W H 28 (zs32.map bv) := by rw [hW, hH]; exact heap_alloc_new _ _
  have aC := hA.below bW
  have bw0 := hbw.trans (bW.mono hbw.size)
  have r0 := hrf.below bw0
  have hxl := Cm.u8_lt x0
  have e3 : (d : Int).tmod 8 = (s : Int) := by rw [Int.tmod_eq_emod_of_nonneg (by omega)]; exact e2
  have wq : IntKind.i64.wrap (q : Int) = (q : Int) := by rw [IntKind.wrap_i64]; omega
  have ws : IntKind.i64.wrap (s : Int) = (s : Int) := by rw [IntKind.wrap_i64]; omega
  have wu : IntKind.u64.wrap (s : Int) = (s : Int) := by rw [IntKind.wrap_u64]; omega
  have hbit : bits .and .u8 ((x0.toNat : Int) / 2 ^ s) 1 = 1 := by
    rw [and_one_val _ _ hxl, hv]
    rfl
  have hHw : w.heap.size ≤ H := by omega
  have hHC : H ≠ C := by have := hA.lt; omega
  have hd9 : d ≤ 80000 := by omega
  clear hlt hv
  replace hbit := Lib.hid hbit
  replace hW := Lib.hid hW
  replace hH := Lib.hid hH
  replace hq := Lib.hid hq
  replace wq := Lib.hid wq
  replace ws := Lib.hid ws
  replace wu := Lib.hid wu
  replace e1 := Lib.hid e1
  replace e2 := Lib.hid e2
  replace e3 := Lib.hid e3
  replace hs0 := Lib.hid hs0
  replace hg := Lib.hid hg
  replace hnf := Lib.hid hnf
  replace hnh := Lib.hid hnh
  replace hcell := Lib.hid hcell
  replace hfne := Lib.hid hfne
  replace hd := Lib.hid hd
  go_enter Tryd.func34, Tryd.ntmps34
  go_upto_region 1 with fail
  rw [← hW.out, ← hH.out]
  refine wp_region_rel [] Ext (by kernel_rfl) (by kernel_rfl) (by kernel_rfl) Ext.refl Ext.trans (by intro p hp; cases hp) ?_
  refine relMove Ext.refl rfl rfl rfl rfl _ (.inl rfl) (by conv => lhs; whnf) (by simp only [List.set_cons_succ, List.set_cons_zero]; rfl) ?_
  refine relPure Ext.refl rfl rfl rfl rfl (fun w _ => by go_simp; first | done | rfl) (by simp only [List.set_cons_succ, List.set_cons_zero]; rfl) ?_
  refine relPure Ext.refl rfl rfl rfl rfl (fun w _ => by go_simp; first | done | rfl) (by simp only [List.set_cons_succ, List.set_cons_zero]; rfl) ?_
  refine relPure Ext.refl rfl rfl rfl rfl (fun w _ => by go_simp; first | done | rfl) (by simp only [List.set_cons_succ, List.set_cons_zero]; rfl) ?_
  refine relPure Ext.refl rfl rfl rfl rfl (c := .slice (some ⟨fb, fo, none⟩) nf cf) (fun w hw => by have := (aC.below hw.drew).cell 2 _ rfl; go_simp; first | done | rfl) (by simp only [List.set_cons_succ, List.set_cons_zero]; rfl) ?_
  refine relMove Ext.refl rfl rfl rfl rfl _ (.inl rfl) (by conv => lhs; whnf) (by simp only [List.set_cons_succ, List.set_cons_zero]; rfl) ?_
  refine relPure Ext.refl rfl rfl rfl rfl (fun w _ => by go_simp; first | done | rfl) (by simp only [List.set_cons_succ, List.set_cons_zero]; rfl) ?_
  refine relPure Ext.refl rfl rfl rfl rfl (fun w _ => by go_simp; first | done | rfl) (by simp only [List.set_cons_succ, List.set_cons_zero]; rfl) ?_
  refine relPure Ext.refl rfl rfl rfl rfl (c := .int .i64 (d : Int)) (fun w hw => by have := (aC.below hw.drew).cell 4 _ rfl; go_simp; first | done | rfl) (by simp only [List.set_cons_succ, List.set_cons_zero]; rfl) ?_
  refine relPure Ext.refl rfl rfl rfl rfl (c := .int .i64 (q : Int)) (fun w _ => by have := e1.out; have := wq.out; go_simp; first | done | rfl) (by simp only [List.set_cons_succ, List.set_cons_zero]; rfl) ?_
  refine relPure Ext.refl rfl rfl rfl rfl (c := .pointer (some ⟨fb, fo + q, none⟩)) (fun w _ => by have := hqn; have := q0; go_simp; first | done | rfl) (by simp only [List.set_cons_succ, List.set_cons_zero]; rfl) ?_
  refine relPure Ext.refl rfl rfl rfl rfl (c := bv x0) (fun w hw => by have := hcell.out _ (r0.below hw.drew); go_simp; first | done | rfl) (by simp only [List.set_cons_succ, List.set_cons_zero]; rfl) ?_
  refine relMove Ext.refl rfl rfl rfl rfl _ (.inl rfl) (by conv => lhs; whnf) (by simp only [List.set_cons_succ, List.set_cons_zero]; rfl) ?_
  refine relPure Ext.refl rfl rfl rfl rfl (fun w _ => by go_simp; first | done | rfl) (by simp only [List.set_cons_succ, List.set_cons_zero]; rfl) ?_
  refine relPure Ext.refl rfl rfl rfl rfl (fun w _ => by go_simp; first | done | rfl) (by simp only [List.set_cons_succ, List.set_cons_zero]; rfl) ?_
  refine relPure Ext.refl rfl rfl rfl rfl (c := .int .i64 (d : Int)) (fun w hw => by have := (aC.below hw.drew).cell 4 _ rfl; go_simp; first | done | rfl) (by simp only [List.set_cons_succ, List.set_cons_zero]; rfl) ?_
  refine relPure Ext.refl rfl rfl rfl rfl (c := .int .i64 (s : Int)) (fun w _ => by have := e3.out; have := ws.out; go_simp; first | done | rfl) (by simp only [List.set_cons_succ, List.set_cons_zero]; rfl) ?_
  refine relPure Ext.refl rfl rfl rfl rfl (c := .int .u64 (s : Int)) (fun w _ => by have := wu.out; go_simp; first | done | rfl) (by simp only [List.set_cons_succ, List.set_cons_zero]; rfl) ?_
  refine relPure Ext.refl rfl rfl rfl rfl (c := .int .u8 ((x0.toNat : Int) / 2 ^ s)) (fun w _ => by have := s0; have := s8; go_simp; first | done | rfl) (by simp only [List.set_cons_succ, List.set_cons_zero]; rfl) ?_
  refine relPure Ext.refl rfl rfl rfl rfl (c := .int .u8 1) (fun w _ => by have := hbit.out; go_simp; first | done | rfl) (by simp only [List.set_cons_succ, List.set_cons_zero]; rfl) ?_
  refine relPure Ext.refl rfl rfl rfl rfl (c := .bool true) (fun w _ => by go_simp; first | done | rfl) (by simp only [List.set_cons_succ, List.set_cons_zero]; rfl) ?_
  refine relMove Ext.refl rfl rfl rfl rfl _ (.inr rfl) (by conv => lhs; whnf) (by simp only [List.set_cons_succ, List.set_cons_zero]; rfl) ?_
  refine relEnd fun w2 hw2 => fill_end ?_
  have bw2 := bW.trans (hw2.drew.mono bW.size)
  have aH2 := aH.below hw2.drew
  have aC2 := aC.below hw2.drew
  have bz2 := hbw.trans (bw2.mono hbw.size)
  have c4 := aC2.cell 4 _ rfl
  have f4 := frozen_of_row _ _ 4 _ _ aC2
  clear aH aC bw0 r0 hw2
  go_upto_region 3 with fail
  obtain ⟨w3, hw3⟩ : ∃ w3, w3 = w2.setCell ⟨C, 4, none⟩ (.int .i64 ((d : Int) + 1)) := ⟨_, rfl⟩
  have fr3 := Fr.setCell w2 ⟨C, 4, none⟩ (.int .i64 ((d : Int) + 1))
  have aC3 := aC2.set 4 (.int .i64 ((d : Int) + 1))
  have aH3 := fr3.av aH2 hHC
  rw [← hw3] at fr3 aC3 aH3 ⊢
  have bz3 := bz2.trans (fr3.below (fun j e => by rw [e]; exact hC0) bz2.size)
  have kf3 := Fr.trans (Below.fr (S := fun j => j = C) bw2) fr3
  replace hw3 := Lib.hid hw3
  clear c4 f4 aH2 aC2 bw2 bz2 fr3
  have hCH : C < H := by rw [hH.out]; exact hA.lt
  have N3 : WInv w0 C tot Ah nh ch _ nf cf pos (d + 1) k v p w3 := ⟨bz3, aC3, own_fr hNo kf3 (fun j e q => hNC.out (by rw [e, q]))⟩
  have K3 : NKeep C v v w w3 := NKeep.ofFr kf3
  have HL2 := HL.out w3 N3
  have hH3 := aH3.lt
  have hvH : v.ownBlock ≠ some H := hNg.out H hHw
  replace hvH := Lib.hid hvH
  replace HL2 := Lib.hid HL2
  clear HL N3 aC3 bz3 kf3 hN hA hNo
  go_upto_region 7 with (first
    | (go_at_call 34; refine (HL2.out).mono ?_; rintro e wl ⟨rfl, v1, N1, K1⟩)
    | ((with_reducible refine wpList_storeF 28 ((Below.refl wl.heap.size wl).alloc (Nat.le_refl _) _) (heap_alloc_new _ _) (Nat.le_refl _) (ax.map bv) ?_ ?_ 32 av32.out ?_ ?_ ?_ ?_); rfl; rfl; kernel_rfl; rfl; exact aone.out; intro w5 a85 b5 k5 z5))
  obtain ⟨L8, hL8⟩ : ∃ L8, L8 = wl.heap.size := ⟨_, rfl⟩
  rw [← hL8] at a85 ⊢
  have nH1 : v1.ownBlock ≠ some H := K1.ne hvH.out hH3
  have n81 : v1.ownBlock ≠ some L8 := N1.ownGe L8 (by omega)
  have h8C : L8 ≠ C := by have := N1.av.lt; omega
  have h8w : w.heap.size ≤ L8 := by rw [hL8]; exact (K3.trans K1).1.size
  have hH8 : H < L8 := by rw [hL8]; exact Nat.lt_of_lt_of_le hH3 K1.1.size
  have aH5 := (K1.av aH3 hHC hvH.out).below b5
  have N5 := N1.ext b5
  have K5 := (K3.trans K1).ext b5
  replace hL8 := Lib.hid hL8
  replace nH1 := Lib.hid nH1
  replace n81 := Lib.hid n81
  clear N1 K1 K3 aH3 b5 k5 z5 HL2
  go_upto_region 8 with (first
    | ((with_reducible refine wpList_loadF 28 a85 ?_ _ 32 av32.out Tryd.underlying28 ?_ ?_ ?_); rfl; rfl; kernel_rfl)
    | ((with_reducible refine wpList_storeF 28 ((Below.refl w5.heap.size w5).alloc (Nat.le_refl _) _) (heap_alloc_new _ _) (Nat.le_refl _) (ax.map bv) ?_ ?_ 32 av32.out ?_ ?_ ?_ ?_); rfl; rfl; kernel_rfl; rfl; exact aone.out; intro w6 a96 b6 k6 z6))
  obtain ⟨L9, hL9⟩ : ∃ L9, L9 = w5.heap.size := ⟨_, rfl⟩
  rw [← hL9] at a96 ⊢
  have n91 : v1.ownBlock ≠ some L9 := N5.ownGe L9 (by omega)
  have h9C : L9 ≠ C := by have := N5.av.lt; omega
  have h9w : w.heap.size ≤ L9 := by rw [hL9]; exact K5.1.size
  have h89 : L8 < L9 := by rw [hL9]; exact a85.lt
  have aH6 := aH5.below b6
  have a86 := a85.below b6
  have N6 := N5.ext b6
  have K6 := K5.ext b6
  have c0 := N6.av.cell 0 _ rfl
  replace hL9 := Lib.hid hL9
  replace n91 := Lib.hid n91
  clear N5 K5 aH5 a85 b6 k6 z6
  have HR2 := HR.out v1 w6 N6
  have hH6 := aH6.lt
  have h86 := a86.lt
  have h96 := a96.lt
  replace HR2 := Lib.hid HR2
  clear HR
  go_upto_region 10 with (first
    | (go_at_call 50; refine (HW.out _).mono ?_; rintro e wx ⟨rfl, rfl⟩)
    | (go_at_call 34; refine (HR2.out).mono ?_; rintro e w7 ⟨rfl, v2, N7, K7⟩)
    | ((with_reducible refine wpList_storeFA 28 (Below.refl w.heap.size w7) (K7.av a96 h9C n91.out) h9w (bx.map bv) ?_ ?_ 32 bv32.out ?_ ?_ ?_ ?_); rfl; rfl; kernel_rfl; (first | rfl | exact av32.out); exact bone.out; intro w8 a98 b8 k8 z8))
  have f8 := Fr.ofStore b8 k8 z8
  have nH8 : v2.ownBlock ≠ some H := K7.ne nH1.out hH6
  have n88 : v2.ownBlock ≠ some L8 := K7.ne n81.out h86
  have n98 : v2.ownBlock ≠ some L9 := K7.ne n91.out h96
  have N8 := N7.fr1 hC0 f8 (by omega) n98
  have K8 := (K6.trans K7).step f8 h9w
  have aH8 := f8.av (K7.av aH6 hHC nH1.out) (by omega)
  have a88 := f8.av (K7.av a86 h8C n81.out) (by omega)
  clear N7 K7 K6 N6 aH6 a86 a96 f8 b8 k8 z8 c0 HR2 nH1 n81 n91 hH6 h86 h96 hH3
  rw [← hp2.out] at N8
  obtain ⟨A2, c2, rfl, _, _⟩ := own_form N8.own
  have c3 := N8.av.cell 3 _ rfl
  replace nH8 := Lib.hid nH8
  replace n88 := Lib.hid n88
  replace n98 := Lib.hid n98
  go_wp2
  clear c3
  go_loopw [10, 11] (fun q kk wr => ∃ j : Nat, j ≤ h ∧ kk = .int .i64 (j : Int) ∧ q = .int .i64 ((pos / 2 ^ j : Nat) : Int) ∧ w8 = wr) (fun _ kk _ => h - (intOf kk).toNat)
  case atStart => exact ⟨0, Nat.zero_le _, rfl, by rw [Nat.pow_zero, Nat.div_one], rfl⟩
  case round =>
    obtain ⟨j, hjh, rfl, rfl, hwr⟩ := hrel
    subst hwr
    by_cases hj : j < h
    · have tj : decide ((j : Int) < (h : Int)) = true := by simp; omega
      obtain ⟨X, hX⟩ : ∃ X, X = pos / 2 ^ j := ⟨_, rfl⟩
      obtain ⟨Y, hY⟩ : ∃ Y, Y = pos / 2 ^ (j + 1) := ⟨_, rfl⟩
      have eXY : (X : Int) / 2 = (Y : Int) := by
        have : X / 2 = Y := by rw [hX, hY, Nat.pow_succ, Nat.div_div_eq_div_mul]
        omega
      have hXb : X ≤ 100000 := Nat.le_trans (by rw [hX]; exact Nat.div_le_self _ _) hpos
      have hYb : Y ≤ 100000 := Nat.le_trans (by rw [hY]; exact Nat.div_le_self _ _) hpos
      rw [← hX]
      replace hX := Lib.hid hX
      replace hY := Lib.hid hY
      go_wp2
      go_roundw
      case rel => exact ⟨j + 1, by omega, by go_num, by rw [← hY.out], trivial⟩
      case measure =>
        simp [intOf]
        omega
    obtain rfl : h = j := by omega
    have tj : decide ((h : Int) < (h : Int)) = false := by simp
    rw [show pos / 2 ^ h = S from hS.out.symm]
    rcases hside.out with ⟨hs1, hs2⟩ | ⟨hs1, hs2⟩ | ⟨hs1, hs3, hs2⟩
    · subst hs2
      have t3 : ((S : Int) == 2 * (i : Int)) = true := by simp; omega
      have t4 : ((S : Int) == 2 * (i : Int) + 1) = false := by simp; omega
      clear hside hs1
      go_upto_region 16 with fail
      refine wp_region_relM 7 7 [(6, fun v w' => ∃ g, v = .slice (some ⟨g, 0, none⟩) 1 1 ∧ w8.heap.size ≤ g ∧ Av w' g 28 (bx.map bv))] Ext (by kernel_rfl) (by simp only [waitOn, List.push_toArray, List.cons_append, List.nil_append]; rfl) rfl (by decide) (by kernel_rfl) (by kernel_rfl) (fun _ _ _ h => h) (by kernel_rfl) (by kernel_rfl) (by kernel_rfl) (by kernel_rfl) Ext.refl Ext.trans (by
        intro p hp v w w' hR
        simp only [List.mem_singleton] at hp
        subst hp
        rintro ⟨g, e, h1, h2⟩
        exact ⟨g, e, h1, h2.below hR⟩) ?_
      refine relMove Ext.refl rfl rfl rfl rfl _ (.inl rfl) (by conv => lhs; whnf) (by simp only [List.set_cons_succ, List.set_cons_zero]; rfl) ?_
      refine relMove Ext.refl rfl rfl rfl rfl _ (.inl rfl) (by conv => lhs; whnf) (by simp only [List.set_cons_succ, List.set_cons_zero]; rfl) ?_
      refine relPure Ext.refl rfl rfl rfl rfl (fun w _ => by go_simp; first | done | rfl) (by simp only [List.set_cons_succ, List.set_cons_zero]; rfl) ?_
      refine relPure Ext.refl rfl rfl rfl rfl (fun w _ => by go_simp; first | done | rfl) (by simp only [List.set_cons_succ, List.set_cons_zero]; rfl) ?_
      refine relPure Ext.refl rfl rfl rfl rfl (c := .slice A2 p2.length c2) (fun w hw => by have := (N8.av.below hw.drew).cell 6 _ rfl; go_simp; first | done | rfl) (by simp only [List.set_cons_succ, List.set_cons_zero]; rfl) ?_
      refine relPure Ext.refl rfl rfl rfl rfl (c := .agg (hcs bx)) (fun w hw => exec_loadAv (a98.below hw.drew) _ _ rfl rfl _ 32 bv32.out Tryd.underlying28 rfl (by kernel_rfl)) (by simp only [List.set_cons_succ, List.set_cons_zero]; rfl) ?_
      refine relWord _ rfl (fun w hw => fill_none rfl (relOp_yes rfl ?_)) ?_
      · rw [exec_build1 Tryd.underlying23 infoHq zeroHq (by decide) (by decide) _ (bx.map bv) bv32.out _ rfl rfl]
        exact ⟨(Below.refl _ _).alloc (Nat.le_refl _) _, _, rfl, hw.drew.size, heap_alloc_new _ _⟩
      refine relEnd fun w9 hw9 => fill_take rfl rfl fun v hv => fill_end ?_
      obtain ⟨gy, rfl, hgy, agy⟩ := hv
      simp only [List.drop_succ_cons, List.drop_zero, List.set_cons_succ, List.set_cons_zero]
      have bd : Below w8.heap.size w8 w9 := hw9.drew
      have N9 := N8.ext bd
      have K9 := K8.ext bd
      have aH9 := aH8.below bd
      have a89 := a88.below bd
      have a99 := a98.below bd
      have og9 := N9.own
      have oC9 := N9.ownC
      have hB9 : C + 1 ≤ w9.heap.size := N9.av.lt
      replace oC9 := Lib.hid oC9
      clear N8 K8 hw9 bd aH8 a88 a98
      go_upto_region 19 with ((at_builtin; refine wpList_appE Tryd.underlying23 infoHq zeroHq (by decide) og9 hB9 (bx.map bv) 1 1 agy.rd (by rw [bv32.out]) (bv_one bx) (by omega) (by omega) rfl (.tmp 112) (.tmp 114) rfl rfl rfl ?_; intro v10 w10 oh10 gr10 ob10; obtain ⟨A10, c10, rfl, hc10, _⟩ := own_form oh10; have aC10 := (Fr.of_grown gr10).av N9.av (fun e => oC9.out e.symm); have cC6 := aC10.cell 6 _ rfl; have fC6 := frozen_of_row _ _ 6 _ _ aC10))
      clear cC6 fC6 aC10
      have N11 := N9.app bx hC0 oh10 gr10 ob10
      have K11 := (K9.grown gr10 ob10).setC (Fr.setCell w10 ⟨C, 6, none⟩ (.slice A10 (p2.length + 1) c10))
      have aH11 := av_app aH9 gr10 nH8.out hHC (.slice A10 (p2.length + 1) c10)
      have a811 := av_app a89 gr10 n88.out h8C (.slice A10 (p2.length + 1) c10)
      have a911 := av_app a99 gr10 n98.out h9C (.slice A10 (p2.length + 1) c10)
      have nH11 : (Value.slice A10 (p2.length + 1) c10).ownBlock ≠ some H := by
        rcases ob10 with e | e
        · rw [e]; exact nH8.out
        · rw [e]; intro e2; injection e2 with e2; have := aH9.lt; omega
      replace nH11 := Lib.hid nH11
      clear N9 K9 aH9 a89 a99 og9 oh10 gr10 ob10 agy hgy
      generalize w10.setCell ⟨C, 6, none⟩ (.slice A10 (p2.length + 1) c10) = w11 at *
      go_wp2_with (first
        | ((with_reducible refine wpList_loadF 28 a811 ?_ _ 32 av32.out Tryd.underlying28 ?_ ?_ ?_); rfl; rfl; kernel_rfl)
        | ((with_reducible refine wpList_loadF 28 a911 ?_ _ 32 bv32.out Tryd.underlying28 ?_ ?_ ?_); rfl; rfl; kernel_rfl)
        | (go_at_call 51; refine (HP.out w11).mono ?_; rintro e w12 ⟨rfl, b12⟩)
        | ((with_reducible refine wpList_storeFA 28 (Below.refl w.heap.size w12) (aH11.below b12) hHw (z.map bv) ?_ ?_ 32 zv32.out ?_ ?_ ?_ ?_); rfl; rfl; kernel_rfl; (first | rfl | exact av32.out); exact zone.out; intro w13 a13 b13 k13 z13))
      have f13 := Fr.ofStore b13 k13 z13
      refine bodyPost_ret (results_cell_row rfl _ _ H _ _ (0, 0) _ (by rfl) a13 Tryd.underlying28 rfl (by rw [List.size_toArray, zv32.out]; kernel_rfl)) rfl ?_
      refine ⟨rfl, _, ?_, (K11.ext b12).step f13 hHw⟩
      rw [show p ++ (qa ++ qb ++ [bx]) = p2 ++ [bx] by rw [hp2.out]; simp]
      exact (N11.ext b12).fr1 hC0 f13 hCH nH11.out
    · subst hs2
      have t3 : ((S : Int) == 2 * (i : Int)) = false := by simp; omega
      have t4 : ((S : Int) == 2 * (i : Int) + 1) = true := by simp; omega
      clear hside hs1
      go_upto_region 18 with fail
      refine wp_region_relM 7 7 [(6, fun v w' => ∃ g, v = .slice (some ⟨g, 0, none⟩) 1 1 ∧ w8.heap.size ≤ g ∧ Av w' g 28 (ax.map bv))] Ext (by kernel_rfl) (by simp only [waitOn, List.push_toArray, List.cons_append, List.nil_append]; rfl) rfl (by decide) (by kernel_rfl) (by kernel_rfl) (fun _ _ _ h => h) (by kernel_rfl) (by kernel_rfl) (by kernel_rfl) (by kernel_rfl) Ext.refl Ext.trans (by
        intro p hp v w w' hR
        simp only [List.mem_singleton] at hp
        subst hp
        rintro ⟨g, e, h1, h2⟩
        exact ⟨g, e, h1, h2.below hR⟩) ?_
      refine relMove Ext.refl rfl rfl rfl rfl _ (.inl rfl) (by conv => lhs; whnf) (by simp only [List.set_cons_succ, List.set_cons_zero]; rfl) ?_
      refine relMove Ext.refl rfl rfl rfl rfl _ (.inl rfl) (by conv => lhs; whnf) (by simp only [List.set_cons_succ, List.set_cons_zero]; rfl) ?_
      refine relPure Ext.refl rfl rfl rfl rfl (fun w _ => by go_simp; first | done | rfl) (by simp only [List.set_cons_succ, List.set_cons_zero]; rfl) ?_
      refine relPure Ext.refl rfl rfl rfl rfl (fun w _ => by go_simp; first | done | rfl) (by simp only [List.set_cons_succ, List.set_cons_zero]; rfl) ?_
      refine relPure Ext.refl rfl rfl rfl rfl (c := .slice A2 p2.length c2) (fun w hw => by have := (N8.av.below hw.drew).cell 6 _ rfl; go_simp; first | done | rfl) (by simp only [List.set_cons_succ, List.set_cons_zero]; rfl) ?_
      refine relPure Ext.refl rfl rfl rfl rfl (c := .agg (hcs ax)) (fun w hw => exec_loadAv (a88.below hw.drew) _ _ rfl rfl _ 32 av32.out Tryd.underlying28 rfl (by kernel_rfl)) (by simp only [List.set_cons_succ, List.set_cons_zero]; rfl) ?_
      refine relWord _ rfl (fun w hw => fill_none rfl (relOp_yes rfl ?_)) ?_
      · rw [exec_build1 Tryd.underlying23 infoHq zeroHq (by decide) (by decide) _ (ax.map bv) av32.out _ rfl rfl]
        exact ⟨(Below.refl _ _).alloc (Nat.le_refl _) _, _, rfl, hw.drew.size, heap_alloc_new _ _⟩
      refine relEnd fun w9 hw9 => fill_take rfl rfl fun v hv => fill_end ?_
      obtain ⟨gy, rfl, hgy, agy⟩ := hv
      simp only [List.drop_succ_cons, List.drop_zero, List.set_cons_succ, List.set_cons_zero]
      have bd : Below w8.heap.size w8 w9 := hw9.drew
      have N9 := N8.ext bd
      have K9 := K8.ext bd
      have aH9 := aH8.below bd
      have a89 := a88.below bd
      have a99 := a98.below bd
      have og9 := N9.own
      have oC9 := N9.ownC
      have hB9 : C + 1 ≤ w9.heap.size := N9.av.lt
      replace oC9 := Lib.hid oC9
      clear N8 K8 hw9 bd aH8 a88 a98
      go_upto_region 19 with ((at_builtin; refine wpList_appE Tryd.underlying23 infoHq zeroHq (by decide) og9 hB9 (ax.map bv) 1 1 agy.rd (by rw [av32.out]) (bv_one ax) (by omega) (by omega) rfl (.tmp 127) (.tmp 129) rfl rfl rfl ?_; intro v10 w10 oh10 gr10 ob10; obtain ⟨A10, c10, rfl, hc10, _⟩ := own_form oh10; have aC10 := (Fr.of_grown gr10).av N9.av (fun e => oC9.out e.symm); have cC6 := aC10.cell 6 _ rfl; have fC6 := frozen_of_row _ _ 6 _ _ aC10))
      clear cC6 fC6 aC10
      have N11 := N9.app ax hC0 oh10 gr10 ob10
      have K11 := (K9.grown gr10 ob10).setC (Fr.setCell w10 ⟨C, 6, none⟩ (.slice A10 (p2.length + 1) c10))
      have aH11 := av_app aH9 gr10 nH8.out hHC (.slice A10 (p2.length + 1) c10)
      have a811 := av_app a89 gr10 n88.out h8C (.slice A10 (p2.length + 1) c10)
      have a911 := av_app a99 gr10 n98.out h9C (.slice A10 (p2.length + 1) c10)
      have nH11 : (Value.slice A10 (p2.length + 1) c10).ownBlock ≠ some H := by
        rcases ob10 with e | e
        · rw [e]; exact nH8.out
        · rw [e]; intro e2; injection e2 with e2; have := aH9.lt; omega
      replace nH11 := Lib.hid nH11
      clear N9 K9 aH9 a89 a99 og9 oh10 gr10 ob10 agy hgy
      generalize w10.setCell ⟨C, 6, none⟩ (.slice A10 (p2.length + 1) c10) = w11 at *
      go_wp2_with (first
        | ((with_reducible refine wpList_loadF 28 a811 ?_ _ 32 av32.out Tryd.underlying28 ?_ ?_ ?_); rfl; rfl; kernel_rfl)
        | ((with_reducible refine wpList_loadF 28 a911 ?_ _ 32 bv32.out Tryd.underlying28 ?_ ?_ ?_); rfl; rfl; kernel_rfl)
        | (go_at_call 51; refine (HP.out w11).mono ?_; rintro e w12 ⟨rfl, b12⟩)
        | ((with_reducible refine wpList_storeFA 28 (Below.refl w.heap.size w12) (aH11.below b12) hHw (z.map bv) ?_ ?_ 32 zv32.out ?_ ?_ ?_ ?_); rfl; rfl; kernel_rfl; (first | rfl | exact av32.out); exact zone.out; intro w13 a13 b13 k13 z13))
      have f13 := Fr.ofStore b13 k13 z13
      refine bodyPost_ret (results_cell_row rfl _ _ H _ _ (0, 0) _ (by rfl) a13 Tryd.underlying28 rfl (by rw [List.size_toArray, zv32.out]; kernel_rfl)) rfl ?_
      refine ⟨rfl, _, ?_, (K11.ext b12).step f13 hHw⟩
      rw [show p ++ (qa ++ qb ++ [ax]) = p2 ++ [ax] by rw [hp2.out]; simp]
      exact (N11.ext b12).fr1 hC0 f13 hCH nH11.out
    · subst hs2
      have t3 : ((S : Int) == 2 * (i : Int)) = false := by simp; omega
      have t4 : ((S : Int) == 2 * (i : Int) + 1) = false := by simp; omega
      clear hside hs1 hs3
      go_upto_region 19 with fail
      go_wp2_with (first
        | ((with_reducible refine wpList_loadF 28 a88 ?_ _ 32 av32.out Tryd.underlying28 ?_ ?_ ?_); rfl; rfl; kernel_rfl)
        | ((with_reducible refine wpList_loadF 28 a98 ?_ _ 32 bv32.out Tryd.underlying28 ?_ ?_ ?_); rfl; rfl; kernel_rfl)
        | (go_at_call 51; refine (HP.out w8).mono ?_; rintro e w12 ⟨rfl, b12⟩)
        | ((with_reducible refine wpList_storeFA 28 (Below.refl w.heap.size w12) (aH8.below b12) hHw (z.map bv) ?_ ?_ 32 zv32.out ?_ ?_ ?_ ?_); rfl; rfl; kernel_rfl; (first | rfl | exact av32.out); exact zone.out; intro w13 a13 b13 k13 z13))
      have f13 := Fr.ofStore b13 k13 z13
      refine bodyPost_ret (results_cell_row rfl _ _ H _ _ (0, 0) _ (by rfl) a13 Tryd.underlying28 rfl (by rw [List.size_toArray, zv32.out]; kernel_rfl)) rfl ?_
      refine ⟨rfl, _, ?_, (K8.ext b12).step f13 hHw⟩
      rw [show p ++ (qa ++ qb ++ []) = p2 ++ [] by rw [hp2.out]; simp]
      rw [List.append_nil]
      exact (N8.ext b12).fr1 hC0 f13 hCH nH8.out
set_option maxRecDepth 100000 in
set_option maxHeartbeats 16000000 in
theorem WNode_one (fl : List UInt8) (hs : List (List UInt8)) (_ : All32 hs) (tot : Nat) (Ah : Option Addr) (nh ch : Nat) (Af : Option Addr) (nf cf : Nat) (pos : Nat) (C : Nat) (hnh : hs.length = nh) (hnf : fl.length = nf) (hnf2 : nf ≤ 10000) (_ : nh ≤ 10000) (w0 : World) (hC0 : w0.heap.size ≤ C) (_ : Rd w0 Ah (hcl hs)) (hrf : Rd w0 Af (fl.map bv)) (d k : Nat) (hd : pDig fl d = some true) (h i : Nat) (hh : h ≤ 12) (hi : i ≤ 100000) (htot : tot ≤ 4096) (hpos : pos ≤ 100000) (hwd : ¬ 2 * i + 1 < pWd tot h) (ax : List UInt8) (ad ak : Nat) (ha0 : ax.length = 32) (qa qc : List (List UInt8)) (hside : (pos / 2 ^ h = 2 * i ∧ qc = [ax]) ∨ (pos / 2 ^ h = 2 * i + 1 ∧ qc = [ax]) ∨ (pos / 2 ^ h ≠ 2 * i ∧ pos / 2 ^ h ≠ 2 * i + 1 ∧ qc = []))
    (v : Value) (p : List (List UInt8)) (hpl : p.length + qa.length ≤ 1000000)
    (HL : ∀ w, WInv w0 C tot Ah nh ch Af nf cf pos (d + 1) k v p w → Calls Tryd.prog 34 #[.pointer (some ⟨C, 0, none⟩), .int .i64 (h : Int), .int .i64 (2 * (i : Int))] w (WdPost w0 C tot Ah nh ch Af nf cf pos v p qa w ad ak ax))
    (w : World) (hN : WInv w0 C tot Ah nh ch Af nf cf pos d k v p w) :
    Calls Tryd.prog 34 #[.pointer (some ⟨C, 0, none⟩), .int .i64 ((h : Int) + 1), .int .i64 (i : Int)] w (WdPost w0 C tot Ah nh ch Af nf cf pos v p (qa ++ [] ++ qc) w ad ak (pairB ax ax)) := by
  obtain ⟨bx, hbx⟩ : ∃ bx, bx = ax := ⟨_, rfl⟩
  obtain ⟨qb, hqb⟩ : ∃ qb : List (List UInt8), qb = [] := ⟨_, rfl⟩
  have hb0 : bx.length = 32 := by rw [hbx]; exact ha0
  rw [← hqb]
  rw [show pairB ax ax = pairB ax bx by rw [hbx]]
  have hpl2 : (p ++ qa ++ qb).length ≤ 1000000 := by rw [hqb, List.append_nil, List.length_append]; exact hpl
  have hA := hN.av
  have hbw := hN.below
  have hNo := hN.own
  have hNC := hN.ownC
  have hNg := fun g hg => hN.ownGe g hg
  have av32 : (ax.map bv).length = 32 := by rw [List.length_map, ha0]
  have bv32 : (bx.map bv).length = 32 := by rw [List.length_map, hb0]
  have aone : (ax.map bv).all (·.oneCell') = true := List.all_eq_true.2 (bv_one ax)
  have bone : (bx.map bv).all (·.oneCell') = true := List.all_eq_true.2 (bv_one bx)
  have HP := fun w => PairR ax bx ha0 hb0 w
  obtain ⟨z, hzp⟩ : ∃ z, z = pairB ax bx := ⟨_, rfl⟩
  have hz32 : z.length = 32 := by rw [hzp]; exact pairB_length ax bx
  rw [← hzp] at HP ⊢
  have zv32 : (z.map bv).length = 32 := by rw [List.length_map, hz32]
  have zone : (z.map bv).all (·.oneCell') = true := List.all_eq_true.2 (bv_one z)
  have HW := fun w => WidthR (tot : Int) (h : Int) w
  rw [pWd_of tot h htot hh] at HW
  obtain ⟨P, hP⟩ : ∃ P : Int, P = (pWd tot h : Int) := ⟨_, rfl⟩
  have t2 : decide (2 * (i : Int) + 1 < P) = false := by simp; omega
  rw [← hP] at HW
  obtain ⟨S, hS⟩ : ∃ S, S = pos / 2 ^ h := ⟨_, rfl⟩
  rw [← hS] at hside
  have hSb : S ≤ 100000 := Nat.le_trans (by rw [hS]; exact Nat.div_le_self _ _) hpos
  obtain ⟨p2, hp2⟩ : ∃ p2, p2 = p ++ qa ++ qb := ⟨_, rfl⟩
  rw [← hp2] at hpl2
  replace hp2 := Lib.hid hp2
  replace hP := Lib.hid hP
  replace hS := Lib.hid hS
  replace HW := Lib.hid HW
  replace HP := Lib.hid HP
  replace hzp := Lib.hid hzp
  replace hz32 := Lib.hid hz32
  replace ha0 := Lib.hid ha0
  replace hb0 := Lib.hid hb0
  replace av32 := Lib.hid av32
  replace bv32 := Lib.hid bv32
  replace zv32 := Lib.hid zv32
  replace aone := Lib.hid aone
  replace bone := Lib.hid bone
  replace zone := Lib.hid zone
  replace hside := Lib.hid hside
  replace hNC := Lib.hid hNC
  replace hNg := Lib.hid hNg
  have t1 : (((h : Int) + 1) == 0) = false := by simp; omega
  replace hbx := Lib.hid hbx
  replace hqb := Lib.hid hqb
  replace HL := Lib.hid HL
  unfold clc at hA
  have hlt := pDig_some hd
  obtain ⟨x0, hg, hv⟩ := dig_val hd
  obtain ⟨q, hq⟩ : ∃ q, q = d / 8 := ⟨_, rfl⟩
  obtain ⟨s, hs0⟩ : ∃ s, s = d % 8 := ⟨_, rfl⟩
  have e1 : (d : Int) / 8 = (q : Int) := by omega
  have e2 : (d : Int) % 8 = (s : Int) := by omega
  have s0 : (0 : Int) ≤ (s : Int) := by omega
  have s8 : (s : Int) < 8 := by omega
  have hqn : (q : Int) < (nf : Int) := by omega
  have q0 : (0 : Int) ≤ (q : Int) := by omega
  rw [← hq] at hg
  rw [← hs0] at hv
  have hfne : fl.map bv ≠ [] := by intro h; have := congrArg List.length h; rw [List.length_map, hnf] at this; simp at this; omega
  obtain ⟨fb, fo, e⟩ := hrf.someA hfne
  subst e
  have hcell : ∀ w', Rd w' (some ⟨fb, fo, none⟩) (fl.map bv) → w'.cell? ⟨fb, fo + q, none⟩ = some (bv x0) := by
    intro w' h
    rcases h with h | ⟨b', o', hA', hc⟩
    · exact absurd h hfne
    · cases hA'
      exact hc q _ (by rw [List.getElem?_map, hg]; rfl)
  have hz := zeros_32
  rw [show List.replicate 32 (0 : UInt8) = zs32 from rfl] at hz
  obtain ⟨W, hW⟩ : ∃ W, W = w.alloc (.cells (zs32.map bv).toArray 28) := ⟨_, rfl⟩
  obtain ⟨H, hH⟩ : ∃ H, H = w.heap.size := ⟨_, rfl⟩
  have bW : Below w.heap.size w W := by rw [hW]; exact (Below.refl _ _).alloc (Nat.le_refl _) _
  have aH : Av W H 28 (zs32.map bv) := by rw [hW, hH]; exact heap_alloc_new _ _
  have aC := hA.below bW
  have bw0 := hbw.trans (bW.mono hbw.size)
  have r0 := hrf.below bw0
  have hxl := Cm.u8_lt x0
  have e3 : (d : Int).tmod 8 = (s : Int) := by rw [Int.tmod_eq_emod_of_nonneg (by omega)]; exact e2
  have wq : IntKind.i64.wrap (q : Int) = (q : Int) := by rw [IntKind.wrap_i64]; omega
  have ws : IntKind.i64.wrap (s : Int) = (s : Int) := by rw [IntKind.wrap_i64]; omega
  have wu : IntKind.u64.wrap (s : Int) = (s : Int) := by rw [IntKind.wrap_u64]; omega
  have hbit : bits .and .u8 ((x0.toNat : Int) / 2 ^ s) 1 = 1 := by
    rw [and_one_val _ _ hxl, hv]
    rfl
  have hHw : w.heap.size ≤ H := by omega
  have hHC : H ≠ C := by have := hA.lt; omega
  have hd9 : d ≤ 80000 := by omega
  clear hlt hv
  replace hbit := Lib.hid hbit
  replace hW := Lib.hid hW
  replace hH := Lib.hid hH
  replace hq := Lib.hid hq
  replace wq := Lib.hid wq
  replace ws := Lib.hid ws
  replace wu := Lib.hid wu
  replace e1 := Lib.hid e1
  replace e2 := Lib.hid e2
  replace e3 := Lib.hid e3
  replace hs0 := Lib.hid hs0
  replace hg := Lib.hid hg
  replace hnf := Lib.hid hnf
  replace hnh := Lib.hid hnh
  replace hcell := Lib.hid hcell
  replace hfne := Lib.hid hfne
  replace hd := Lib.hid hd
  go_enter Tryd.func34, Tryd.ntmps34
  go_upto_region 1 with fail
  rw [← hW.out, ← hH.out]
  refine wp_region_rel [] Ext (by kernel_rfl) (by kernel_rfl) (by kernel_rfl) Ext.refl Ext.trans (by intro p hp; cases hp) ?_
  refine relMove Ext.refl rfl rfl rfl rfl _ (.inl rfl) (by conv => lhs; whnf) (by simp only [List.set_cons_succ, List.set_cons_zero]; rfl) ?_
  refine relPure Ext.refl rfl rfl rfl rfl (fun w _ => by go_simp; first | done | rfl) (by simp only [List.set_cons_succ, List.set_cons_zero]; rfl) ?_
  refine relPure Ext.refl rfl rfl rfl rfl (fun w _ => by go_simp; first | done | rfl) (by simp only [List.set_cons_succ, List.set_cons_zero]; rfl) ?_
  refine relPure Ext.refl rfl rfl rfl rfl (fun w _ => by go_simp; first | done | rfl) (by simp only [List.set_cons_succ, List.set_cons_zero]; rfl) ?_
  refine relPure Ext.refl rfl rfl rfl rfl (c := .slice (some ⟨fb, fo, none⟩) nf cf) (fun w hw => by have := (aC.below hw.drew).cell 2 _ rfl; go_simp; first | done | rfl) (by simp only [List.set_cons_succ, List.set_cons_zero]; rfl) ?_
  refine relMove Ext.refl rfl rfl rfl rfl _ (.inl rfl) (by conv => lhs; whnf) (by simp only [List.set_cons_succ, List.set_cons_zero]; rfl) ?_
  refine relPure Ext.refl rfl rfl rfl rfl (fun w _ => by go_simp; first | done | rfl) (by simp only [List.set_cons_succ, List.set_cons_zero]; rfl) ?_
  refine relPure Ext.refl rfl rfl rfl rfl (fun w _ => by go_simp; first | done | rfl) (by simp only [List.set_cons_succ, List.set_cons_zero]; rfl) ?_
  refine relPure Ext.refl rfl rfl rfl rfl (c := .int .i64 (d : Int)) (fun w hw => by have := (aC.below hw.drew).cell 4 _ rfl; go_simp; first | done | rfl) (by simp only [List.set_cons_succ, List.set_cons_zero]; rfl) ?_
  refine relPure Ext.refl rfl rfl rfl rfl (c := .int .i64 (q : Int)) (fun w _ => by have := e1.out; have := wq.out; go_simp; first | done | rfl) (by simp only [List.set_cons_succ, List.set_cons_zero]; rfl) ?_
  refine relPure Ext.refl rfl rfl rfl rfl (c := .pointer (some ⟨fb, fo + q, none⟩)) (fun w _ => by have := hqn; have := q0; go_simp; first | done | rfl) (by simp only [List.set_cons_succ, List.set_cons_zero]; rfl) ?_
  refine relPure Ext.refl rfl rfl rfl rfl (c := bv x0) (fun w hw => by have := hcell.out _ (r0.below hw.drew); go_simp; first | done | rfl) (by simp only [List.set_cons_succ, List.set_cons_zero]; rfl) ?_
  refine relMove Ext.refl rfl rfl rfl rfl _ (.inl rfl) (by conv => lhs; whnf) (by simp only [List.set_cons_succ, List.set_cons_zero]; rfl) ?_
  refine relPure Ext.refl rfl rfl rfl rfl (fun w _ => by go_simp; first | done | rfl) (by simp only [List.set_cons_succ, List.set_cons_zero]; rfl) ?_
  refine relPure Ext.refl rfl rfl rfl rfl (fun w _ => by go_simp; first | done | rfl) (by simp only [List.set_cons_succ, List.set_cons_zero]; rfl) ?_
  refine relPure Ext.refl rfl rfl rfl rfl (c := .int .i64 (d : Int)) (fun w hw => by have := (aC.below hw.drew).cell 4 _ rfl; go_simp; first | done | rfl) (by simp only [List.set_cons_succ, List.set_cons_zero]; rfl) ?_
  refine relPure Ext.refl rfl rfl rfl rfl (c := .int .i64 (s : Int)) (fun w _ => by have := e3.out; have := ws.out; go_simp; first | done | rfl) (by simp only [List.set_cons_succ, List.set_cons_zero]; rfl) ?_
  refine relPure Ext.refl rfl rfl rfl rfl (c := .int .u64 (s : Int)) (fun w _ => by have := wu.out; go_simp; first | done | rfl) (by simp only [List.set_cons_succ, List.set_cons_zero]; rfl) ?_
  refine relPure Ext.refl rfl rfl rfl rfl (c := .int .u8 ((x0.toNat : Int) / 2 ^ s)) (fun w _ => by have := s0; have := s8; go_simp; first | done | rfl) (by simp only [List.set_cons_succ, List.set_cons_zero]; rfl) ?_
  refine relPure Ext.refl rfl rfl rfl rfl (c := .int .u8 1) (fun w _ => by have := hbit.out; go_simp; first | done | rfl) (by simp only [List.set_cons_succ, List.set_cons_zero]; rfl) ?_
  refine relPure Ext.refl rfl rfl rfl rfl (c := .bool true) (fun w _ => by go_simp; first | done | rfl) (by simp only [List.set_cons_succ, List.set_cons_zero]; rfl) ?_
  refine relMove Ext.refl rfl rfl rfl rfl _ (.inr rfl) (by conv => lhs; whnf) (by simp only [List.set_cons_succ, List.set_cons_zero]; rfl) ?_
  refine relEnd fun w2 hw2 => fill_end ?_
  have bw2 := bW.trans (hw2.drew.mono bW.size)
  have aH2 := aH.below hw2.drew
  have aC2 := aC.below hw2.drew
  have bz2 := hbw.trans (bw2.mono hbw.size)
  have c4 := aC2.cell 4 _ rfl
  have f4 := frozen_of_row _ _ 4 _ _ aC2
  clear aH aC bw0 r0 hw2
  go_upto_region 3 with fail
  obtain ⟨w3, hw3⟩ : ∃ w3, w3 = w2.setCell ⟨C, 4, none⟩ (.int .i64 ((d : Int) + 1)) := ⟨_, rfl⟩
  have fr3 := Fr.setCell w2 ⟨C, 4, none⟩ (.int .i64 ((d : Int) + 1))
  have aC3 := aC2.set 4 (.int .i64 ((d : Int) + 1))
  have aH3 := fr3.av aH2 hHC
  rw [← hw3] at fr3 aC3 aH3 ⊢
  have bz3 := bz2.trans (fr3.below (fun j e => by rw [e]; exact hC0) bz2.size)
  have kf3 := Fr.trans (Below.fr (S := fun j => j = C) bw2) fr3
  replace hw3 := Lib.hid hw3
  clear c4 f4 aH2 aC2 bw2 bz2 fr3
  have hCH : C < H := by rw [hH.out]; exact hA.lt
  have N3 : WInv w0 C tot Ah nh ch _ nf cf pos (d + 1) k v p w3 := ⟨bz3, aC3, own_fr hNo kf3 (fun j e q => hNC.out (by rw [e, q]))⟩
  have K3 : NKeep C v v w w3 := NKeep.ofFr kf3
  have HL2 := HL.out w3 N3
  have hH3 := aH3.lt
  have hvH : v.ownBlock ≠ some H := hNg.out H hHw
  replace hvH := Lib.hid hvH
  replace HL2 := Lib.hid HL2
  clear HL N3 aC3 bz3 kf3 hN hA hNo
  go_upto_region 7 with (first
    | (go_at_call 34; refine (HL2.out).mono ?_; rintro e wl ⟨rfl, v1, N1, K1⟩)
    | ((with_reducible refine wpList_storeF 28 ((Below.refl wl.heap.size wl).alloc (Nat.le_refl _) _) (heap_alloc_new _ _) (Nat.le_refl _) (ax.map bv) ?_ ?_ 32 av32.out ?_ ?_ ?_ ?_); rfl; rfl; kernel_rfl; rfl; exact aone.out; intro w5 a85 b5 k5 z5))
  obtain ⟨L8, hL8⟩ : ∃ L8, L8 = wl.heap.size := ⟨_, rfl⟩
  rw [← hL8] at a85 ⊢
  have nH1 : v1.ownBlock ≠ some H := K1.ne hvH.out hH3
  have n81 : v1.ownBlock ≠ some L8 := N1.ownGe L8 (by omega)
  have h8C : L8 ≠ C := by have := N1.av.lt; omega
  have h8w : w.heap.size ≤ L8 := by rw [hL8]; exact (K3.trans K1).1.size
  have hH8 : H < L8 := by rw [hL8]; exact Nat.lt_of_lt_of_le hH3 K1.1.size
  have aH5 := (K1.av aH3 hHC hvH.out).below b5
  have N5 := N1.ext b5
  have K5 := (K3.trans K1).ext b5
  replace hL8 := Lib.hid hL8
  replace nH1 := Lib.hid nH1
  replace n81 := Lib.hid n81
  clear N1 K1 K3 aH3 b5 k5 z5 HL2
  go_upto_region 8 with (first
    | ((with_reducible refine wpList_loadF 28 a85 ?_ _ 32 av32.out Tryd.underlying28 ?_ ?_ ?_); rfl; rfl; kernel_rfl)
    | ((with_reducible refine wpList_storeF 28 ((Below.refl w5.heap.size w5).alloc (Nat.le_refl _) _) (heap_alloc_new _ _) (Nat.le_refl _) (ax.map bv) ?_ ?_ 32 av32.out ?_ ?_ ?_ ?_); rfl; rfl; kernel_rfl; rfl; exact aone.out; intro w6 a96 b6 k6 z6))
  obtain ⟨L9, hL9⟩ : ∃ L9, L9 = w5.heap.size := ⟨_, rfl⟩
  rw [← hL9] at a96 ⊢
  have n91 : v1.ownBlock ≠ some L9 := N5.ownGe L9 (by omega)
  have h9C : L9 ≠ C := by have := N5.av.lt; omega
  have h9w : w.heap.size ≤ L9 := by rw [hL9]; exact K5.1.size
  have h89 : L8 < L9 := by rw [hL9]; exact a85.lt
  have aH6 := aH5.below b6
  have a86 := a85.below b6
  have N6 := N5.ext b6
  have K6 := K5.ext b6
  have c0 := N6.av.cell 0 _ rfl
  replace hL9 := Lib.hid hL9
  replace n91 := Lib.hid n91
  clear N5 K5 aH5 a85 b6 k6 z6
  go_upto_region 10 with (go_at_call 50; refine (HW.out _).mono ?_; rintro e wx ⟨rfl, rfl⟩)
  clear c0 hH3
  obtain ⟨w8, hw8⟩ : ∃ w8, w8 = wx := ⟨_, rfl⟩
  have a98 : Av w8 L9 28 (bx.map bv) := by rw [hw8, hbx.out]; exact a96
  have K8 := K6
  have aH8 := aH6
  have a88 := a86
  rw [← hw8] at N6 K8 aH8 a88 ⊢
  clear a96 hw8 K6 aH6 a86
  have N8 : WInv w0 C tot Ah nh ch (some ⟨fb, fo, none⟩) nf cf pos ad ak v1 p2 w8 := by rw [hp2.out, hqb.out, List.append_nil]; exact N6
  have nH8 := nH1.out
  have n88 := n81.out
  have n98 := n91.out
  clear N6 nH1 n81 n91
  obtain ⟨A2, c2, rfl, _, _⟩ := own_form N8.own
  have c3 := N8.av.cell 3 _ rfl
  replace nH8 := Lib.hid nH8
  replace n88 := Lib.hid n88
  replace n98 := Lib.hid n98
  go_wp2
  clear c3
  go_loopw [10, 11] (fun q kk wr => ∃ j : Nat, j ≤ h ∧ kk = .int .i64 (j : Int) ∧ q = .int .i64 ((pos / 2 ^ j : Nat) : Int) ∧ w8 = wr) (fun _ kk _ => h - (intOf kk).toNat)
  case atStart => exact ⟨0, Nat.zero_le _, rfl, by rw [Nat.pow_zero, Nat.div_one], rfl⟩
  case round =>
    obtain ⟨j, hjh, rfl, rfl, hwr⟩ := hrel
    subst hwr
    by_cases hj : j < h
    · have tj : decide ((j : Int) < (h : Int)) = true := by simp; omega
      obtain ⟨X, hX⟩ : ∃ X, X = pos / 2 ^ j := ⟨_, rfl⟩
      obtain ⟨Y, hY⟩ : ∃ Y, Y = pos / 2 ^ (j + 1) := ⟨_, rfl⟩
      have eXY : (X : Int) / 2 = (Y : Int) := by
        have : X / 2 = Y := by rw [hX, hY, Nat.pow_succ, Nat.div_div_eq_div_mul]
        omega
      have hXb : X ≤ 100000 := Nat.le_trans (by rw [hX]; exact Nat.div_le_self _ _) hpos
      have hYb : Y ≤ 100000 := Nat.le_trans (by rw [hY]; exact Nat.div_le_self _ _) hpos
      rw [← hX]
      replace hX := Lib.hid hX
      replace hY := Lib.hid hY
      go_wp2
      go_roundw
      case rel => exact ⟨j + 1, by omega, by go_num, by rw [← hY.out], trivial⟩
      case measure =>
        simp [intOf]
        omega
    obtain rfl : h = j := by omega
    have tj : decide ((h : Int) < (h : Int)) = false := by simp
    rw [show pos / 2 ^ h = S from hS.out.symm]
    rcases hside.out with ⟨hs1, hs2⟩ | ⟨hs1, hs2⟩ | ⟨hs1, hs3, hs2⟩
    · subst hs2
      have t3 : ((S : Int) == 2 * (i : Int)) = true := by simp; omega
      have t4 : ((S : Int) == 2 * (i : Int) + 1) = false := by simp; omega
      clear hside hs1
      go_upto_region 16 with fail
      refine wp_region_relM 7 7 [(6, fun v w' => ∃ g, v = .slice (some ⟨g, 0, none⟩) 1 1 ∧ w8.heap.size ≤ g ∧ Av w' g 28 (bx.map bv))] Ext (by kernel_rfl) (by simp only [waitOn, List.push_toArray, List.cons_append, List.nil_append]; rfl) rfl (by decide) (by kernel_rfl) (by kernel_rfl) (fun _ _ _ h => h) (by kernel_rfl) (by kernel_rfl) (by kernel_rfl) (by kernel_rfl) Ext.refl Ext.trans (by
        intro p hp v w w' hR
        simp only [List.mem_singleton] at hp
        subst hp
        rintro ⟨g, e, h1, h2⟩
        exact ⟨g, e, h1, h2.below hR⟩) ?_
      refine relMove Ext.refl rfl rfl rfl rfl _ (.inl rfl) (by conv => lhs; whnf) (by simp only [List.set_cons_succ, List.set_cons_zero]; rfl) ?_
      refine relMove Ext.refl rfl rfl rfl rfl _ (.inl rfl) (by conv => lhs; whnf) (by simp only [List.set_cons_succ, List.set_cons_zero]; rfl) ?_
      refine relPure Ext.refl rfl rfl rfl rfl (fun w _ => by go_simp; first | done | rfl) (by simp only [List.set_cons_succ, List.set_cons_zero]; rfl) ?_
      refine relPure Ext.refl rfl rfl rfl rfl (fun w _ => by go_simp; first | done | rfl) (by simp only [List.set_cons_succ, List.set_cons_zero]; rfl) ?_
      refine relPure Ext.refl rfl rfl rfl rfl (c := .slice A2 p2.length c2) (fun w hw => by have := (N8.av.below hw.drew).cell 6 _ rfl; go_simp; first | done | rfl) (by simp only [List.set_cons_succ, List.set_cons_zero]; rfl) ?_
      refine relPure Ext.refl rfl rfl rfl rfl (c := .agg (hcs bx)) (fun w hw => exec_loadAv (a98.below hw.drew) _ _ rfl rfl _ 32 bv32.out Tryd.underlying28 rfl (by kernel_rfl)) (by simp only [List.set_cons_succ, List.set_cons_zero]; rfl) ?_
      refine relWord _ rfl (fun w hw => fill_none rfl (relOp_yes rfl ?_)) ?_
      · rw [exec_build1 Tryd.underlying23 infoHq zeroHq (by decide) (by decide) _ (bx.map bv) bv32.out _ rfl rfl]
        exact ⟨(Below.refl _ _).alloc (Nat.le_refl _) _, _, rfl, hw.drew.size, heap_alloc_new _ _⟩
      refine relEnd fun w9 hw9 => fill_take rfl rfl fun v hv => fill_end ?_
      obtain ⟨gy, rfl, hgy, agy⟩ := hv
      simp only [List.drop_succ_cons, List.drop_zero, List.set_cons_succ, List.set_cons_zero]
      have bd : Below w8.heap.size w8 w9 := hw9.drew
      have N9 := N8.ext bd
      have K9 := K8.ext bd
      have aH9 := aH8.below bd
      have a89 := a88.below bd
      have a99 := a98.below bd
      have og9 := N9.own
      have oC9 := N9.ownC
      have hB9 : C + 1 ≤ w9.heap.size := N9.av.lt
      replace oC9 := Lib.hid oC9
      clear N8 K8 hw9 bd aH8 a88 a98
      go_upto_region 19 with ((at_builtin; refine wpList_appE Tryd.underlying23 infoHq zeroHq (by decide) og9 hB9 (bx.map bv) 1 1 agy.rd (by rw [bv32.out]) (bv_one bx) (by omega) (by omega) rfl (.tmp 112) (.tmp 114) rfl rfl rfl ?_; intro v10 w10 oh10 gr10 ob10; obtain ⟨A10, c10, rfl, hc10, _⟩ := own_form oh10; have aC10 := (Fr.of_grown gr10).av N9.av (fun e => oC9.out e.symm); have cC6 := aC10.cell 6 _ rfl; have fC6 := frozen_of_row _ _ 6 _ _ aC10))
      clear cC6 fC6 aC10
      have N11 := N9.app bx hC0 oh10 gr10 ob10
      have K11 := (K9.grown gr10 ob10).setC (Fr.setCell w10 ⟨C, 6, none⟩ (.slice A10 (p2.length + 1) c10))
      have aH11 := av_app aH9 gr10 nH8.out hHC (.slice A10 (p2.length + 1) c10)
      have a811 := av_app a89 gr10 n88.out h8C (.slice A10 (p2.length + 1) c10)
      have a911 := av_app a99 gr10 n98.out h9C (.slice A10 (p2.length + 1) c10)
      have nH11 : (Value.slice A10 (p2.length + 1) c10).ownBlock ≠ some H := by
        rcases ob10 with e | e
        · rw [e]; exact nH8.out
        · rw [e]; intro e2; injection e2 with e2; have := aH9.lt; omega
      replace nH11 := Lib.hid nH11
      clear N9 K9 aH9 a89 a99 og9 oh10 gr10 ob10 agy hgy
      generalize w10.setCell ⟨C, 6, none⟩ (.slice A10 (p2.length + 1) c10) = w11 at *
      go_wp2_with (first
        | ((with_reducible refine wpList_loadF 28 a811 ?_ _ 32 av32.out Tryd.underlying28 ?_ ?_ ?_); rfl; rfl; kernel_rfl)
        | ((with_reducible refine wpList_loadF 28 a911 ?_ _ 32 bv32.out Tryd.underlying28 ?_ ?_ ?_); rfl; rfl; kernel_rfl)
        | (go_at_call 51; refine (HP.out w11).mono ?_; rintro e w12 ⟨rfl, b12⟩)
        | ((with_reducible refine wpList_storeFA 28 (Below.refl w.heap.size w12) (aH11.below b12) hHw (z.map bv) ?_ ?_ 32 zv32.out ?_ ?_ ?_ ?_); rfl; rfl; kernel_rfl; (first | rfl | exact av32.out); exact zone.out; intro w13 a13 b13 k13 z13))
      have f13 := Fr.ofStore b13 k13 z13
      refine bodyPost_ret (results_cell_row rfl _ _ H _ _ (0, 0) _ (by rfl) a13 Tryd.underlying28 rfl (by rw [List.size_toArray, zv32.out]; kernel_rfl)) rfl ?_
      refine ⟨rfl, _, ?_, (K11.ext b12).step f13 hHw⟩
      rw [show [ax] = [bx] by rw [hbx.out]]
      rw [show p ++ (qa ++ qb ++ [bx]) = p2 ++ [bx] by rw [hp2.out]; simp]
      exact (N11.ext b12).fr1 hC0 f13 hCH nH11.out
    · subst hs2
      have t3 : ((S : Int) == 2 * (i : Int)) = false := by simp; omega
      have t4 : ((S : Int) == 2 * (i : Int) + 1) = true := by simp; omega
      clear hside hs1
      go_upto_region 18 with fail
      refine wp_region_relM 7 7 [(6, fun v w' => ∃ g, v = .slice (some ⟨g, 0, none⟩) 1 1 ∧ w8.heap.size ≤ g ∧ Av w' g 28 (ax.map bv))] Ext (by kernel_rfl) (by simp only [waitOn, List.push_toArray, List.cons_append, List.nil_append]; rfl) rfl (by decide) (by kernel_rfl) (by kernel_rfl) (fun _ _ _ h => h) (by kernel_rfl) (by kernel_rfl) (by kernel_rfl) (by kernel_rfl) Ext.refl Ext.trans (by
        intro p hp v w w' hR
        simp only [List.mem_singleton] at hp
        subst hp
        rintro ⟨g, e, h1, h2⟩
        exact ⟨g, e, h1, h2.below hR⟩) ?_
      refine relMove Ext.refl rfl rfl rfl rfl _ (.inl rfl) (by conv => lhs; whnf) (by simp only [List.set_cons_succ, List.set_cons_zero]; rfl) ?_
      refine relMove Ext.refl rfl rfl rfl rfl _ (.inl rfl) (by conv => lhs; whnf) (by simp only [List.set_cons_succ, List.set_cons_zero]; rfl) ?_
      refine relPure Ext.refl rfl rfl rfl rfl (fun w _ => by go_simp; first | done | rfl) (by simp only [List.set_cons_succ, List.set_cons_zero]; rfl) ?_
      refine relPure Ext.refl rfl rfl rfl rfl (fun w _ => by go_simp; first | done | rfl) (by simp only [List.set_cons_succ, List.set_cons_zero]; rfl) ?_
      refine relPure Ext.refl rfl rfl rfl rfl (c := .slice A2 p2.length c2) (fun w hw => by have := (N8.av.below hw.drew).cell 6 _ rfl; go_simp; first | done | rfl) (by simp only [List.set_cons_succ, List.set_cons_zero]; rfl) ?_
      refine relPure Ext.refl rfl rfl rfl rfl (c := .agg (hcs ax)) (fun w hw => exec_loadAv (a88.below hw.drew) _ _ rfl rfl _ 32 av32.out Tryd.underlying28 rfl (by kernel_rfl)) (by simp only [List.set_cons_succ, List.set_cons_zero]; rfl) ?_
      refine relWord _ rfl (fun w hw => fill_none rfl (relOp_yes rfl ?_)) ?_
      · rw [exec_build1 Tryd.underlying23 infoHq zeroHq (by decide) (by decide) _ (ax.map bv) av32.out _ rfl rfl]
        exact ⟨(Below.refl _ _).alloc (Nat.le_refl _) _, _, rfl, hw.drew.size, heap_alloc_new _ _⟩
      refine relEnd fun w9 hw9 => fill_take rfl rfl fun v hv => fill_end ?_
      obtain ⟨gy, rfl, hgy, agy⟩ := hv
      simp only [List.drop_succ_cons, List.drop_zero, List.set_cons_succ, List.set_cons_zero]
      have bd : Below w8.heap.size w8 w9 := hw9.drew
      have N9 := N8.ext bd
      have K9 := K8.ext bd
      have aH9 := aH8.below bd
      have a89 := a88.below bd
      have a99 := a98.below bd
      have og9 := N9.own
      have oC9 := N9.ownC
      have hB9 : C + 1 ≤ w9.heap.size := N9.av.lt
      replace oC9 := Lib.hid oC9
      clear N8 K8 hw9 bd aH8 a88 a98
      go_upto_region 19 with ((at_builtin; refine wpList_appE Tryd.underlying23 infoHq zeroHq (by decide) og9 hB9 (ax.map bv) 1 1 agy.rd (by rw [av32.out]) (bv_one ax) (by omega) (by omega) rfl (.tmp 127) (.tmp 129) rfl rfl rfl ?_; intro v10 w10 oh10 gr10 ob10; obtain ⟨A10, c10, rfl, hc10, _⟩ := own_form oh10; have aC10 := (Fr.of_grown gr10).av N9.av (fun e => oC9.out e.symm); have cC6 := aC10.cell 6 _ rfl; have fC6 := frozen_of_row _ _ 6 _ _ aC10))
      clear cC6 fC6 aC10
      have N11 := N9.app ax hC0 oh10 gr10 ob10
      have K11 := (K9.grown gr10 ob10).setC (Fr.setCell w10 ⟨C, 6, none⟩ (.slice A10 (p2.length + 1) c10))
      have aH11 := av_app aH9 gr10 nH8.out hHC (.slice A10 (p2.length + 1) c10)
      have a811 := av_app a89 gr10 n88.out h8C (.slice A10 (p2.length + 1) c10)
      have a911 := av_app a99 gr10 n98.out h9C (.slice A10 (p2.length + 1) c10)
      have nH11 : (Value.slice A10 (p2.length + 1) c10).ownBlock ≠ some H := by
        rcases ob10 with e | e
        · rw [e]; exact nH8.out
        · rw [e]; intro e2; injection e2 with e2; have := aH9.lt; omega
      replace nH11 := Lib.hid nH11
      clear N9 K9 aH9 a89 a99 og9 oh10 gr10 ob10 agy hgy
      generalize w10.setCell ⟨C, 6, none⟩ (.slice A10 (p2.length + 1) c10) = w11 at *
      go_wp2_with (first
        | ((with_reducible refine wpList_loadF 28 a811 ?_ _ 32 av32.out Tryd.underlying28 ?_ ?_ ?_); rfl; rfl; kernel_rfl)
        | ((with_reducible refine wpList_loadF 28 a911 ?_ _ 32 bv32.out Tryd.underlying28 ?_ ?_ ?_); rfl; rfl; kernel_rfl)
        | (go_at_call 51; refine (HP.out w11).mono ?_; rintro e w12 ⟨rfl, b12⟩)
        | ((with_reducible refine wpList_storeFA 28 (Below.refl w.heap.size w12) (aH11.below b12) hHw (z.map bv) ?_ ?_ 32 zv32.out ?_ ?_ ?_ ?_); rfl; rfl; kernel_rfl; (first | rfl | exact av32.out); exact zone.out; intro w13 a13 b13 k13 z13))
      have f13 := Fr.ofStore b13 k13 z13
      refine bodyPost_ret (results_cell_row rfl _ _ H _ _ (0, 0) _ (by rfl) a13 Tryd.underlying28 rfl (by rw [List.size_toArray, zv32.out]; kernel_rfl)) rfl ?_
      refine ⟨rfl, _, ?_, (K11.ext b12).step f13 hHw⟩
      rw [show p ++ (qa ++ qb ++ [ax]) = p2 ++ [ax] by rw [hp2.out]; simp]
      exact (N11.ext b12).fr1 hC0 f13 hCH nH11.out
    · subst hs2
      have t3 : ((S : Int) == 2 * (i : Int)) = false := by simp; omega
      have t4 : ((S : Int) == 2 * (i : Int) + 1) = false := by simp; omega
      clear hside hs1 hs3
      go_upto_region 19 with fail
      go_wp2_with (first
        | ((with_reducible refine wpList_loadF 28 a88 ?_ _ 32 av32.out Tryd.underlying28 ?_ ?_ ?_); rfl; rfl; kernel_rfl)
        | ((with_reducible refine wpList_loadF 28 a98 ?_ _ 32 bv32.out Tryd.underlying28 ?_ ?_ ?_); rfl; rfl; kernel_rfl)
        | (go_at_call 51; refine (HP.out w8).mono ?_; rintro e w12 ⟨rfl, b12⟩)
        | ((with_reducible refine wpList_storeFA 28 (Below.refl w.heap.size w12) (aH8.below b12) hHw (z.map bv) ?_ ?_ 32 zv32.out ?_ ?_ ?_ ?_); rfl; rfl; kernel_rfl; (first | rfl | exact av32.out); exact zone.out; intro w13 a13 b13 k13 z13))
      have f13 := Fr.ofStore b13 k13 z13
      refine bodyPost_ret (results_cell_row rfl _ _ H _ _ (0, 0) _ (by rfl) a13 Tryd.underlying28 rfl (by rw [List.size_toArray, zv32.out]; kernel_rfl)) rfl ?_
      refine ⟨rfl, _, ?_, (K8.ext b12).step f13 hHw⟩
      rw [show p ++ (qa ++ qb ++ []) = p2 ++ [] by rw [hp2.out]; simp]
      rw [List.append_nil]
      exact (N8.ext b12).fr1 hC0 f13 hCH nH8.out
end Go.Proofs.YtdkknincamkhpaaDoor
