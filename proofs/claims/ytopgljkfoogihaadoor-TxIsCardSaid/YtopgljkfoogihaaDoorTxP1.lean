/- tx.Put's closures: number, count, script. -/
import Derived.Test.YtopgljkfoogihaaDoorFr
import Derived.Test.YtopgljkfoogihaaDoorCPut
import Derived.Test.YtopgljkfoogihaaDoorRelT
import Derived.Test.YtopgljkfoogihaaDoorStr
namespace Go.Proofs.YtopgljkfoogihaaDoor
open Go.RowKit
set_option maxRecDepth 10000 in
set_option maxHeartbeats 1000000 in
theorem TPut1 (n : Int) (h0 : 0 ≤ n) (sz : Nat) (hsz : sz ≤ 8) (g base : Nat) (w : World) (v : Value) (bs : List UInt8) (hB : Buf w g base v bs) (hbase : base ≤ w.heap.size) (hlen : bs.length ≤ 1000000000000) :
    Calls Tryd.prog 21 #[.int .u64 n, .int .i64 (sz : Int), .pointer (some ⟨g, 0, none⟩)] w fun e w' => (∃ r, e = .returned r) ∧ ∃ v', BufTo g base w v w' v' (bs ++ Cm.lo sz n.toNat) := by
  go_enter Tryd.func21, Tryd.ntmps21
  go_wp2
  go_loopw [5, 7] (fun _ i wr => ∃ (k : Nat) (v' : Value), k ≤ sz ∧ i = .int .i64 (k : Int) ∧ BufTo g base w v wr v' (bs ++ Cm.lo k n.toNat)) (fun _ i _ => sz - (intOf i).toNat)
  case atStart => exact ⟨0, v, by omega, rfl, by simpa [Cm.lo] using hB.to⟩
  case round =>
    obtain ⟨k, v', hk, rfl, hb⟩ := hrel
    by_cases hlt : k < sz
    · have t1 : decide ((k : Int) < (sz : Int)) = true := by simp; omega
      obtain ⟨x, hx⟩ : ∃ x, x = UInt8.ofNat (n.toNat / 256 ^ k) := ⟨_, rfl⟩
      have hby := byte_at n h0 k
      rw [← hx] at hby
      have hll : (bs ++ Cm.lo k n.toNat).length ≤ 1000000000008 := by rw [List.length_append, Cm.lo_length]; omega
      replace hx := Lib.hid hx
      obtain ⟨cs, hcs⟩ : ∃ cs, cs = bs ++ Cm.lo k n.toNat := ⟨_, rfl⟩
      rw [← hcs] at hb hll
      replace hcs := Lib.hid hcs
      have e1 : IntKind.i64.wrap (8 * (k : Int)) = 8 * (k : Int) := by rw [IntKind.wrap_i64]; omega
      have e2 : 0 ≤ 8 * (k : Int) := by omega
      have e3 : 8 * (k : Int) < 64 := by omega
      have e4 : (8 * (k : Int)).toNat = 8 * k := by omega
      go_wp2_with fail
      refine wp_region_relT 7 [(6, OneW [bv x])] Ext (by kernel_rfl) (by kernel_rfl) (by kernel_rfl) (by kernel_rfl) (by kernel_rfl) Ext.refl Ext.trans (by intro p hp v w w' hR; simp only [List.mem_singleton] at hp; subst hp; exact OneW.mono hR) ?_
      refine relPure Ext.refl rfl rfl rfl rfl (c := v') (fun w hw => by have := (hb.buf.av.below hw.drew).cell 0 _ rfl; go_simp; first | done | rfl) (by simp only [List.set_cons_succ, List.set_cons_zero]; rfl) ?_
      refine relMove Ext.refl rfl rfl rfl rfl _ (.inl rfl) (by conv => lhs; whnf) (by simp only [List.set_cons_succ, List.set_cons_zero]; rfl) ?_
      refine relMove Ext.refl rfl rfl rfl rfl _ (.inl rfl) (by conv => lhs; whnf) (by simp only [List.set_cons_succ, List.set_cons_zero]; rfl) ?_
      refine relPure Ext.refl rfl rfl rfl rfl (fun w _ => by go_simp; first | done | rfl) (by simp only [List.set_cons_succ, List.set_cons_zero]; rfl) ?_
      refine relPure Ext.refl rfl rfl rfl rfl (c := .int .u64 (n / 2 ^ (8 * k))) (fun w hw => by go_simp; first | done | rfl) (by simp only [List.set_cons_succ, List.set_cons_zero]; rfl) ?_
      refine relPure Ext.refl rfl rfl rfl rfl (c := .int .u8 (x.toNat : Int)) (fun w hw => by go_simp; rw [IntKind.wrap_u8, hby]) (by simp only [List.set_cons_succ, List.set_cons_zero]; rfl) ?_
      refine relWord _ rfl (fun w hw => fill_none rfl (relOp_yes rfl ?_)) ?_
      · go_simp
        exact ⟨(Below.refl _ _).alloc (Nat.le_refl _) _, _, rfl, Rd.one _ _ _⟩
      refine relEnd fun w2 hw2 => fill_take rfl rfl fun u hu => fill_end ?_
      simp only [List.set_cons_succ, List.set_cons_zero, List.drop_succ_cons, List.drop_zero]
      obtain ⟨D, rfl, hrb⟩ := hu
      have hb1 := hb.below hw2.drew
      have hb2 := hb1.buf
      have hbase2 : base ≤ w2.heap.size := Nat.le_trans hbase hb1.fr.size
      go_wp2_with (at_builtin; refine wpList_appV hb2.own hbase2 (bs := [x]) 1 1 hrb rfl (by omega) rfl (.tmp 10) (.tmp 16) rfl rfl rfl ?_; intro v3 w3 o3 gr3 ob3; obtain ⟨q3, A3, c3, rfl⟩ := o3.formE; have q1 := hb2.av.same (gr3.block _ hb2.av.lt (fun e => hb2.ne e.symm)); have qc := q1.cell 0 _ rfl; have qf := frozen_of_row _ _ 0 _ _ q1)
      have hb3 := hb1.trans (hb2.app o3 gr3 ob3)
      refine ⟨⟨k + 1, .slice A3 q3 c3, by omega, by go_num, ?_⟩, ?_⟩
      · rw [hcs.out, List.append_assoc, hx.out, ← Cm.lo_snoc] at hb3
        exact hb3
      · simp [intOf]; omega
    · obtain rfl : k = sz := by omega
      have t1 : decide ((k : Int) < (k : Int)) = false := by simp
      go_wp2
      go_end0
      refine ⟨⟨_, rfl⟩, v', hb⟩

set_option maxRecDepth 10000 in
set_option maxHeartbeats 1000000 in
theorem TPut2 (n : Nat) (hn : n ≤ 1000000) (g base : Nat) (w : World) (v : Value) (bs : List UInt8) (hB : Buf w g base v bs) (hbase : base ≤ w.heap.size) (hlen : bs.length ≤ 1000000000000) :
    Calls Tryd.prog 22 #[.int .i64 (n : Int), .pointer (some ⟨g, 0, none⟩)] w fun e w' => (∃ r, e = .returned r) ∧ ∃ v', BufTo g base w v w' v' (bs ++ Cm.put n) := by
  have n0 : 0 ≤ (n : Int) := by omega
  have e1 : IntKind.u64.wrap (n : Int) = (n : Int) := by rw [IntKind.wrap_u64]; omega
  obtain ⟨p, hp⟩ : ∃ p, p = Cm.put n := ⟨_, rfl⟩
  have HP := Lib.hid (fun w => compact_Put [] none 0 0 (n : Int) n0 p (by rw [hp]; rfl) w (Rd.nil _ _) rfl (by omega))
  have hpl : p.length ≤ 9 := by rw [hp, Cm.put_length]; exact (Cm.size_le n).2
  rw [← hp]
  clear hp
  obtain ⟨m, hm⟩ : ∃ m, p.length = m := ⟨_, rfl⟩
  rw [hm] at hpl
  replace hm := Lib.hid hm
  go_enter Tryd.func22, Tryd.ntmps22
  go_wp2_with fail
  refine wp_region_relT 4 [(3, SlW p)] Ext (by kernel_rfl) (by kernel_rfl) (by kernel_rfl) (by kernel_rfl) (by kernel_rfl) Ext.refl Ext.trans (by intro p hp v w w' hR; simp only [List.mem_singleton] at hp; subst hp; exact SlW.mono hR) ?_
  refine relPure Ext.refl rfl rfl rfl rfl (c := v) (fun w hw => by have := (hB.av.below hw.drew).cell 0 _ rfl; go_simp; first | done | rfl) (by simp only [List.set_cons_succ, List.set_cons_zero]; rfl) ?_
  refine relMove Ext.refl rfl rfl rfl rfl _ (.inl rfl) (by conv => lhs; whnf) (by simp only [List.set_cons_succ, List.set_cons_zero]; rfl) ?_
  refine relPure Ext.refl rfl rfl rfl rfl (c := .int .u64 (n : Int)) (fun w _ => by go_simp; first | done | rfl) (by simp only [List.set_cons_succ, List.set_cons_zero]; rfl) ?_
  refine relCall _ rfl rfl rfl 23 #[.slice none 0 0, .int .u64 (n : Int)] (fun w => by go_simp) (fun w hw => (HP.out w).mono ?_) ?_
  · rintro e w' ⟨u, rfl, ho, hb⟩
    exact ⟨_, rfl, hb, SlW.own ho⟩
  refine relEnd fun w2 hw2 => fill_take rfl rfl fun u hu => fill_end ?_
  simp only [List.set_cons_succ, List.set_cons_zero, List.drop_succ_cons, List.drop_zero]
  obtain ⟨D, c, rfl, hrb⟩ := hu
  rw [hm.out]
  have hb1 := hB.to.below hw2.drew
  have hb2 := hb1.buf
  have hbase2 : base ≤ w2.heap.size := Nat.le_trans hbase hb1.fr.size
  go_wp2_with (at_builtin; refine wpList_appV hb2.own hbase2 m c hrb hm.out (by omega) rfl (.tmp 3) (.tmp 6) rfl rfl rfl ?_; intro v3 w3 o3 gr3 ob3; obtain ⟨q3, A3, c3, rfl⟩ := o3.formE; have q1 := hb2.av.same (gr3.block _ hb2.av.lt (fun e => hb2.ne e.symm)); have qc := q1.cell 0 _ rfl; have qf := frozen_of_row _ _ 0 _ _ q1)
  go_end0
  refine ⟨⟨_, rfl⟩, .slice A3 q3 c3, hb1.trans (hb2.app o3 gr3 ob3)⟩

set_option maxRecDepth 10000 in
set_option maxHeartbeats 1000000 in
theorem TPut3 (s : List UInt8) (A : Option Addr) (n c : Nat) (hs : s.length = n) (hn : n ≤ 1000000) (g6 g base : Nat) (w : World) (v : Value) (bs : List UInt8) (hr : Rd w A (s.map bv)) (hA : s ≠ [] → ∀ a, A = some a → a.block ≠ g ∧ v.ownBlock ≠ some a.block)
    (h6 : Av w g6 66 [.func (.func 22) #[] #[.pointer (some ⟨g, 0, none⟩)]]) (hB : Buf w g base v bs) (hbase : base ≤ w.heap.size) (hlen : bs.length ≤ 100000000000) :
    Calls Tryd.prog 24 #[.slice A n c, .pointer (some ⟨g6, 0, none⟩), .pointer (some ⟨g, 0, none⟩)] w fun e w' => (∃ r, e = .returned r) ∧ ∃ v', BufTo g base w v w' v' (bs ++ (Cm.put n ++ s)) := by
  have HP := Lib.hid (TPut2 n hn g base w v bs hB hbase (by omega))
  have c6 := h6.cell 0 _ rfl
  have hpl : (Cm.put n).length ≤ 9 := by rw [Cm.put_length]; exact (Cm.size_le n).2
  obtain ⟨p, hp⟩ : ∃ p, p = Cm.put n := ⟨_, rfl⟩
  rw [← hp] at HP hpl ⊢
  clear hp
  replace hs := Lib.hid hs
  go_enter Tryd.func24, Tryd.ntmps24
  go_wp2_with fail
  refine (HP.out).mono ?_
  rintro e w2 ⟨⟨r, rfl⟩, v2, hb1⟩
  have hb2 := hb1.buf
  have hbase2 : base ≤ w2.heap.size := Nat.le_trans hbase hb1.fr.size
  have hr2 : Rd w2 A (s.map bv) := by
    by_cases hs0 : s = []
    · rw [hs0]; exact Rd.nil _ _
    · exact hb1.fr.rd hr (fun a ha e => e.elim (hA hs0 a ha).1 (hA hs0 a ha).2)
  have cg := hb2.av.cell 0 _ rfl
  have hll : (bs ++ p).length ≤ 100000000009 := by rw [List.length_append]; omega
  clear c6 HP hpl hr hA h6 hB hbase
  go_wp2_with (at_builtin; refine wpList_appV hb2.own hbase2 n c hr2 hs.out (by omega) rfl (.tmp 8) (.tmp 9) rfl rfl rfl ?_; intro v3 w3 o3 gr3 ob3; obtain ⟨q3, A3, c3, rfl⟩ := o3.formE; have q1 := hb2.av.same (gr3.block _ hb2.av.lt (fun e => hb2.ne e.symm)); have qc := q1.cell 0 _ rfl; have qf := frozen_of_row _ _ 0 _ _ q1)
  go_end0
  refine ⟨⟨_, rfl⟩, .slice A3 q3 c3, ?_⟩
  rw [← List.append_assoc]
  exact hb1.trans (hb2.app o3 gr3 ob3)
end Go.Proofs.YtopgljkfoogihaaDoor
