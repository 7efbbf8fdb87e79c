/- Slices of headers; header.PutAll, Linked. -/
import Derived.Test.YtjgdmpbaikhflaaDoorPr8
import Derived.Test.YtjgdmpbaikhflaaDoorPr9
import Derived.Test.YtjgdmpbaikhflaaDoorPr12
namespace Go.Proofs.YtjgdmpbaikhflaaDoor
open Go.RowKit
/-- headers' bytes -/
def hdAll (l : List Hd) : List UInt8 := Cm.put l.length ++ l.flatMap fun h => hdB h ++ [0]
theorem hdAll_len {l : List Hd} (h : OkHds l) (hl : l.length < 253) : (hdAll l).length = 81 * l.length + 1 := by
  unfold hdAll
  rw [List.length_append, Cm.put_length, flat_length _ 81 l (fun e he => by rw [List.length_append, hdB_length (h e he)]; rfl), Cm.size, if_pos hl]
  omega
set_option maxRecDepth 10000 in
set_option maxHeartbeats 4000000 in
theorem HdPutAll (l : List Hd) (A : Option Addr) (n c : Nat) (hn : l.length = n) (hn2 : n ≤ 2000) (w : World) (hr : RdHds w A l) :
    Calls Tryd.prog 17 #[.slice A n c] w fun e w' => ∃ v, e = .returned (.tuple #[v, .int .i64 0]) ∧ OwnB w' w.heap.size v (hdAll l) ∧ Below w.heap.size w w' := by
  have t1 : decide ((2000 : Int) < (n : Int)) = false := by simp; omega
  have e1 : IntKind.u64.wrap (n : Int) = (n : Int) := by rw [IntKind.wrap_u64]; omega
  have HP := fun w => compact_Put [] none 0 0 (n : Int) (by omega) (Cm.put n) (by simp) w (Rd.nil _ _) rfl (by omega)
  have HH := fun (x : Hd) (hx : x.ok) (w' : World) => HdPut x hx w'
  have hz := zeros_68
  obtain ⟨zs, hzs⟩ : ∃ zs : List Value, zs = hdc ⟨0, List.replicate 32 0, List.replicate 32 0, 0, 0, 0⟩ := ⟨_, rfl⟩
  have hzl : zs.length = 68 := by rw [hzs]; rfl
  rw [← hzs] at hz
  clear hzs
  have hpl : (Cm.put n).length ≤ 9 := by rw [Cm.put_length]; exact (Cm.size_le n).2
  replace hzl := Lib.hid hzl
  replace HP := Lib.hid HP
  replace HH := Lib.hid HH
  replace hn := Lib.hid hn
  go_enter Tryd.func17, Tryd.ntmps17
  go_wp2_with (go_at_call 33; refine (HP.out w).mono ?_; rintro e w1 ⟨v1, rfl, o1, b1⟩)
  go_loopw [4, 16] (fun v i wr => ∃ j : Nat, j ≤ n ∧ i = .int .i64 (j : Int) ∧ Below w.heap.size w wr ∧ OwnB wr w.heap.size v (Cm.put n ++ (l.take j).flatMap fun h => hdB h ++ [0])) (fun _ i _ => n - (intOf i).toNat)
  case atStart => exact ⟨0, by omega, rfl, b1, by simpa using o1⟩
  case round =>
    clear o1 b1
    obtain ⟨j, hj, rfl, bw, ow⟩ := hrel
    by_cases hlt : j < n
    · have t2 : decide ((j : Int) < (n : Int)) = true := by simp; omega
      obtain ⟨x, hx⟩ : ∃ x, l[j]? = some x := ⟨_, List.getElem?_eq_getElem (by rw [hn.out]; exact hlt)⟩
      obtain ⟨b, off, rfl⟩ := hr.adr (by rw [hn.out]; omega)
      obtain ⟨rx, xok⟩ := (hr.below bw).nth j x hx
      have x68 := Lib.hid (hdc_length xok)
      have rx2 := Lib.hid rx
      have HX := HH.out x xok
      have hxs : l.take (j + 1) = l.take j ++ [x] := by rw [List.take_add_one, hx]; rfl
      obtain ⟨cs, hcs⟩ : ∃ cs, cs = Cm.put n ++ (l.take j).flatMap fun h => hdB h ++ [0] := ⟨_, rfl⟩
      rw [← hcs] at ow
      have hcl : cs.length ≤ 1000000 := by
        rw [hcs, List.length_append, flat_length _ 81 _ (fun e he => by rw [List.length_append, hdB_length (hr.2 e (List.mem_of_mem_take he))]; rfl), List.length_take]
        omega
      have hB := hdB_length xok
      replace HX := Lib.hid HX
      replace hcs := Lib.hid hcs
      replace hB := Lib.hid hB
      replace hx := Lib.hid hx
      replace hxs := Lib.hid hxs
      have one := Lib.hid (List.all_eq_true.2 (hdc_one x))
      clear rx
      have m0 : 0 ≤ (j : Int) := by omega
      have m1 : (j : Int) < (n : Int) := by omega
      go_upto_region 7 with (first
        | ((with_reducible refine wpList_loadMF 26 (hdc x) rx2.out ?_ _ Tryd.underlying26 ?_ ?_ ?_); rfl; rfl; (rw [x68.out]; kernel_rfl))
        | ((with_reducible refine wpList_storeF 26 ((Below.refl wr.heap.size wr).alloc (Nat.le_refl _) _) (heap_alloc_new _ _) (Nat.le_refl _) (hdc x) ?_ ?_ 68 x68.out ?_ ?_ ?_ ?_); rfl; rfl; kernel_rfl; (rw [List.size_toArray]; exact hzl.out); exact one.out; intro w2 a2 b2 k2 z2; clear k2; replace z2 := Lib.hid z2))
      have bw2 := bw.trans (b2.mono bw.size)
      have ow2 := ow.below b2
      clear ow
      go_upto_region 8 with (first
        | ((with_reducible refine wpList_loadF 26 a2 ?_ _ 68 x68.out Tryd.underlying26 ?_ ?_ ?_); rfl; rfl; kernel_rfl)
        | (go_at_call 14; refine (HX.out w2).mono ?_; rintro e w3 ⟨A3, rfl, r3, b3⟩; have bw3 := bw2.trans (b3.mono bw2.size); have ow3 := ow2.below b3)
        | (at_builtin; refine wpList_appB ow3 bw3 bw3.size 80 80 r3 hB.out (by omega) rfl (.tmp 20) (.tmp 22) rfl rfl rfl ?_; intro v4 w4 ow4 bw4 _ _))
      have hl4 : (cs ++ hdB x).length + 1 ≤ 140737488355328 := by rw [List.length_append, hB.out]; omega
      go_wp2_with (at_builtin; refine wpList_appB1 ow4 bw4 bw4.size 0 rfl hl4 rfl (.tmp 24) (.tmp 25) rfl rfl rfl ?_; intro v5 w5 ow5 bw5 _)
      have e5 : cs ++ hdB x ++ [0] = Cm.put n ++ (l.take (j + 1)).flatMap fun h => hdB h ++ [0] := by
        rw [hcs.out, hxs.out, List.flatMap_append, List.flatMap_cons, List.flatMap_nil, List.append_nil]
        simp only [List.append_assoc]
      rw [e5] at ow5
      replace e5 := Lib.hid e5
      refine ⟨⟨j + 1, by omega, by go_num, bw5, ow5⟩, ?_⟩
      simp [intOf]
      omega
    · obtain rfl : j = n := by omega
      have t2 : decide ((j : Int) < (j : Int)) = false := by simp
      have e5 : l.take j = l := List.take_of_length_le (by rw [hn.out]; exact Nat.le_refl _)
      rw [e5] at ow
      have e6 : hdAll l = Cm.put j ++ l.flatMap fun h => hdB h ++ [0] := by rw [hdAll, hn.out]
      rw [← e6] at ow
      replace e5 := Lib.hid e5
      replace e6 := Lib.hid e6
      go_wp2
      go_ret2
      exact ⟨_, rfl, ow, bw⟩
/-- is a header the first of a list that doesn't stand on the one ahead? -/
def linkB (l : List Hd) (i : Nat) : Bool := decide (0 < i) && !((l.getD i default).prev == hdId (l.getD (i - 1) default))
def mLinked (l : List Hd) : Nat := match (List.range l.length).find? (linkB l) with
  | some i => i
  | none => l.length
theorem mLinked_le (l : List Hd) : mLinked l ≤ l.length := by
  unfold mLinked
  cases h : (List.range l.length).find? (linkB l) with
  | none => exact Nat.le_refl _
  | some i => have := List.mem_of_find?_eq_some h; simp at this; dsimp only; omega
theorem neqPg (x y : List UInt8) (hx : x.length = 32) (hy : y.length = 32) (p q : Operand) (w : World) : (do eqGuard .neq 24 p q (.agg (hcs x)) (.agg (hcs y)); binOp .neq 24 (.agg (hcs x)) (.agg (hcs y)) : Sem Value).run Tryd.prog w = .ok (.bool (!(x == y))) w := by
  rw [Sem.run_bind, show (eqGuard .neq 24 p q (.agg (hcs x)) (.agg (hcs y))).run Tryd.prog w = .ok () w by go_simp]
  have := neqP x y hx hy w
  simpa using this
set_option maxRecDepth 10000 in
set_option maxHeartbeats 4000000 in
theorem HdLinked (l : List Hd) (A : Option Addr) (n c : Nat) (hn : l.length = n) (hn2 : n ≤ 1000000) (w : World) (hr : RdHds w A l) (ht : Tabs w) :
    Calls Tryd.prog 13 #[.slice A n c] w fun e w' => e = .returned (.int .i64 (mLinked l : Int)) ∧ Below w.heap.size w w' := by
  have HI := fun (x : Hd) (hx : x.ok) (w' : World) (t : Tabs w') => HdId x hx w' t
  obtain ⟨R, hR⟩ : ∃ R, R = mLinked l := ⟨_, rfl⟩
  rw [← hR]
  replace hR := Lib.hid hR
  replace HI := Lib.hid HI
  replace hn := Lib.hid hn
  go_enter Tryd.func13, Tryd.ntmps13
  go_wp2
  go_loopw [6] (fun i wr => ∃ j : Nat, j ≤ n ∧ i = .int .i64 (j : Int) ∧ Below w.heap.size w wr ∧ Hid (∀ q, q < j → linkB l q = false)) (fun i _ => n - (intOf i).toNat)
  case atStart => exact ⟨0, by omega, rfl, Below.refl _ _, Lib.hid (fun q hq => by omega)⟩
  case round =>
    obtain ⟨j, hj, rfl, bw, hf⟩ := hrel
    by_cases hlt : j < n
    · have t2 : decide ((j : Int) < (n : Int)) = true := by simp; omega
      by_cases hj0 : j = 0
      · subst hj0
        go_wp2_with fail
        refine wp_region_rel [] Ext (by kernel_rfl) (by kernel_rfl) (by kernel_rfl) Ext.refl Ext.trans (by intro p hp; cases hp) ?_
        refine relMove Ext.refl rfl rfl rfl rfl _ (.inl rfl) (by conv => lhs; whnf) (by simp only [List.set_cons_succ, List.set_cons_zero]; rfl) ?_
        refine relPure Ext.refl rfl rfl rfl rfl (c := .bool false) (fun w _ => by go_simp; first | done | rfl) (by simp only [List.set_cons_succ, List.set_cons_zero]; rfl) ?_
        refine relMove Ext.refl rfl rfl rfl rfl _ (.inl rfl) (by conv => lhs; whnf) (by simp only [List.set_cons_succ, List.set_cons_zero]; rfl) ?_
        refine relSkip rfl rfl rfl rfl (by simp only [List.set_cons_succ, List.set_cons_zero]; rfl) ?_
        refine relSkip rfl rfl rfl rfl (by simp only [List.set_cons_succ, List.set_cons_zero]; rfl) ?_
        refine relSkip rfl rfl rfl rfl (by simp only [List.set_cons_succ, List.set_cons_zero]; rfl) ?_
        refine relSkip rfl rfl rfl rfl (by simp only [List.set_cons_succ, List.set_cons_zero]; rfl) ?_
        refine relSkip rfl rfl rfl rfl (by simp only [List.set_cons_succ, List.set_cons_zero]; rfl) ?_
        refine relSkip rfl rfl rfl rfl (by simp only [List.set_cons_succ, List.set_cons_zero]; rfl) ?_
        refine relSkip rfl rfl rfl rfl (by simp only [List.set_cons_succ, List.set_cons_zero]; rfl) ?_
        refine relSkip rfl rfl rfl rfl (by simp only [List.set_cons_succ, List.set_cons_zero]; rfl) ?_
        refine relSkip rfl rfl rfl rfl (by simp only [List.set_cons_succ, List.set_cons_zero]; rfl) ?_
        refine relSkip rfl rfl rfl rfl (by simp only [List.set_cons_succ, List.set_cons_zero]; rfl) ?_
        refine relSkip rfl rfl rfl rfl (by simp only [List.set_cons_succ, List.set_cons_zero]; rfl) ?_
        refine relSkip rfl rfl rfl rfl (by simp only [List.set_cons_succ, List.set_cons_zero]; rfl) ?_
        refine relPick Ext.refl rfl rfl rfl rfl _ _ _ rfl rfl (by conv => lhs; whnf) (by simp only [List.set_cons_succ, List.set_cons_zero]; rfl) ?_
        refine relEnd fun w2 hw2 => fill_end ?_
        have b2 := bw.trans (hw2.drew.mono bw.size)
        go_wp2
        refine ⟨⟨1, by omega, by go_num, b2, Lib.hid (fun q hq => by have e : q = 0 := (by omega); subst e; simp [linkB])⟩, ?_⟩
        simp [intOf]
        omega
      · have t3 : decide ((0 : Int) < (j : Int)) = true := by simp; omega
        obtain ⟨x, hx⟩ : ∃ x, l[j]? = some x := ⟨_, List.getElem?_eq_getElem (by rw [hn.out]; exact hlt)⟩
        obtain ⟨y, hy⟩ : ∃ y, l[j - 1]? = some y := ⟨_, List.getElem?_eq_getElem (by rw [hn.out]; omega)⟩
        obtain ⟨b, off, rfl⟩ := hr.adr (by rw [hn.out]; omega)
        obtain ⟨_, xok⟩ := hr.nth j x hx
        obtain ⟨_, yok⟩ := hr.nth (j - 1) y hy
        have G1 : ∀ w', Below w.heap.size w w' → w'.rangeAt b (off + j * 68 + 1) (x.prev.map bv) := fun w' h => range_prev ((hr.below h).nth j x hx).1
        have G2 : ∀ w', Below w.heap.size w w' → w'.rangeAt b (off + (j - 1) * 68) (hdc y) := fun w' h => ((hr.below h).nth (j - 1) y hy).1
        have y68 := hdc_length yok
        have xp32 : (x.prev.map bv).length = 32 := by rw [List.length_map, xok.2.1]
        have HI2 := HI.out y yok
        have hlb : linkB l j = !(x.prev == hdId y) := by
          unfold linkB
          rw [decide_eq_true (by omega), Bool.true_and, List.getD_eq_getElem?_getD, List.getD_eq_getElem?_getD, hx, hy]
          rfl
        have N1 := neqPg x.prev (hdId y) xok.2.1 (hdId_length y)
        rw [← hlb] at N1
        have m0 : 0 ≤ (j : Int) := by omega
        have m1 : (j : Int) < (n : Int) := by omega
        obtain ⟨i, hi⟩ : ∃ i, i = j - 1 := ⟨_, rfl⟩
        rw [← hi] at hy G2
        have e1 : IntKind.i64.wrap ((j : Int) - 1) = (i : Int) := by rw [IntKind.wrap_i64]; omega
        have m2 : 0 ≤ (i : Int) := by omega
        have m3 : (i : Int) < (n : Int) := by omega
        have m4 : (i : Int) = (j : Int) - 1 := by omega
        replace hi := Lib.hid hi
        replace hx := Lib.hid hx
        replace hy := Lib.hid hy
        replace G1 := Lib.hid G1
        replace G2 := Lib.hid G2
        replace HI2 := Lib.hid HI2
        replace N1 := Lib.hid N1
        replace hlb := Lib.hid hlb
        replace m4 := Lib.hid m4
        obtain ⟨q, hq⟩ : ∃ q, q = linkB l j := ⟨_, rfl⟩
        rw [← hq] at N1
        go_wp2_with fail
        refine wp_region_rel [] Ext (by kernel_rfl) (by kernel_rfl) (by kernel_rfl) Ext.refl Ext.trans (by intro p hp; cases hp) ?_
        refine relMove Ext.refl rfl rfl rfl rfl _ (.inl rfl) (by conv => lhs; whnf) (by simp only [List.set_cons_succ, List.set_cons_zero]; rfl) ?_
        refine relPure Ext.refl rfl rfl rfl rfl (c := .bool true) (fun w _ => by go_simp; first | done | rfl | omega) (by simp only [List.set_cons_succ, List.set_cons_zero]; rfl) ?_
        refine relMove Ext.refl rfl rfl rfl rfl _ (.inl rfl) (by conv => lhs; whnf) (by simp only [List.set_cons_succ, List.set_cons_zero]; rfl) ?_
        refine relMove Ext.refl rfl rfl rfl rfl _ (.inl rfl) (by conv => lhs; whnf) (by simp only [List.set_cons_succ, List.set_cons_zero]; rfl) ?_
        refine relMove Ext.refl rfl rfl rfl rfl _ (.inl rfl) (by conv => lhs; whnf) (by simp only [List.set_cons_succ, List.set_cons_zero]; rfl) ?_
        refine relPure Ext.refl rfl rfl rfl rfl (c := .pointer (some ⟨b, off + j * 68, none⟩)) (fun w _ => by go_simp; first | done | rfl) (by simp only [List.set_cons_succ, List.set_cons_zero]; rfl) ?_
        refine relPure Ext.refl rfl rfl rfl rfl (c := .pointer (some ⟨b, off + j * 68 + 1, none⟩)) (fun w _ => by go_simp; first | done | rfl) (by simp only [List.set_cons_succ, List.set_cons_zero]; rfl) ?_
        refine relPure Ext.refl rfl rfl rfl rfl (c := .agg (hcs x.prev)) (fun w hw => exec_load_mid _ _ rfl b (off + j * 68 + 1) rfl (x.prev.map bv) _ (G1.out _ (bw.trans (hw.drew.mono bw.size))) Tryd.underlying24 rfl (by rw [xp32]; kernel_rfl)) (by simp only [List.set_cons_succ, List.set_cons_zero]; rfl) ?_
        refine relMove Ext.refl rfl rfl rfl rfl _ (.inl rfl) (by conv => lhs; whnf) (by simp only [List.set_cons_succ, List.set_cons_zero]; rfl) ?_
        refine relMove Ext.refl rfl rfl rfl rfl _ (.inl rfl) (by conv => lhs; whnf) (by simp only [List.set_cons_succ, List.set_cons_zero]; rfl) ?_
        refine relPure Ext.refl rfl rfl rfl rfl (c := .int .i64 (i : Int)) (fun w _ => by go_simp; first | done | rfl) (by simp only [List.set_cons_succ, List.set_cons_zero]; rfl) ?_
        refine relPure Ext.refl rfl rfl rfl rfl (c := .pointer (some ⟨b, off + i * 68, none⟩)) (fun w _ => by go_simp; first | done | rfl) (by simp only [List.set_cons_succ, List.set_cons_zero]; rfl) ?_
        refine relPure Ext.refl rfl rfl rfl rfl (c := .agg (hdc y).toArray) (fun w hw => exec_load_mid _ _ rfl b (off + i * 68) rfl (hdc y) _ (G2.out _ (bw.trans (hw.drew.mono bw.size))) Tryd.underlying26 rfl (by rw [y68]; kernel_rfl)) (by simp only [List.set_cons_succ, List.set_cons_zero]; rfl) ?_
        refine relCall1 rfl rfl rfl rfl (c := .agg (hcs (hdId y))) 12 #[.agg (hdc y).toArray] (fun w => by go_simp) (fun w hw => (HI2.out w (ht.below (bw.trans (hw.drew.mono bw.size)))).mono ?_) (by simp only [List.set_cons_succ, List.set_cons_zero]; rfl) ?_
        · rintro e w' ⟨rfl, hb⟩
          exact ⟨rfl, hb⟩
        refine relBin Ext.refl rfl rfl rfl rfl _ _ _ _ _ rfl (by conv => lhs; whnf) (by conv => lhs; whnf) (c := .bool q) (fun w => N1.out _ _ w) (by simp only [List.set_cons_succ, List.set_cons_zero]; rfl) ?_
        refine relPick Ext.refl rfl rfl rfl rfl _ _ _ rfl rfl (by conv => lhs; whnf) (by simp only [List.set_cons_succ, List.set_cons_zero]; rfl) ?_
        refine relEnd fun w2 hw2 => fill_end ?_
        have b2 := bw.trans (hw2.drew.mono bw.size)
        cases q
        · have hf2 : ∀ p, p < j + 1 → linkB l p = false := fun p hp => by
            by_cases e : p = j
            · rw [e]; exact hq.symm
            · exact hf.out p (by omega)
          replace hf2 := Lib.hid hf2
          go_wp2
          refine ⟨⟨j + 1, by omega, by go_num, b2, hf2⟩, ?_⟩
          simp [intOf]
          omega
        · go_wp2
          go_ret
          have eR : R = j := by rw [hR.out, mLinked, find_range (by rw [hn.out]; exact hlt) hq.symm hf.out]
          exact ⟨by rw [eR]; rfl, b2⟩
    · obtain rfl : j = n := by omega
      have t2 : decide ((j : Int) < (j : Int)) = false := by simp
      go_wp2
      go_ret
      have eR : R = j := by rw [hR.out, mLinked, find_none (by rw [hn.out]; exact hf.out)]; exact hn.out
      exact ⟨by rw [eR]; rfl, bw⟩
end Go.Proofs.YtjgdmpbaikhflaaDoor
