import Derived.Test.YtobjgebojhjhnaaDoorTxP
import Derived.Test.YtobjgebojhjhnaaDoorQr8
import Derived.Test.YtobjgebojhjhnaaDoorQr2
import Derived.Test.YtobjgebojhjhnaaDoorBss
import Derived.Test.YtobjgebojhjhnaaDoorQr3
namespace Go.Proofs.YtobjgebojhjhnaaDoor
open Go.RowKit
attribute [local go_sem high] slB_lh slB_l slB_h
theorem results_cellAv1 {fn : Func} {p u : Tmp} {ty : TypeId} (h : fn.results = #[.cell p ty, .tmp u]) {tmps : Array Value} {P : Program} {w : World} {g : Nat} {t : TypeId} {C : List Value} (hp : tmps.getD p undef = .pointer (some ⟨g, 0, none⟩)) (ha : Av w g t C) (d : TypeDesc) (hu : P.underlying ty = some d) (hd : d.isRow = true)
  (n : Nat) (hn : C.length = n) (hi : (P.info? ty).map (·.size) = some n) :
  (results fn tmps).run P w = .ok (.tuple #[.agg C.toArray, tmps.getD u undef]) w := by
 rw [results_cell_tmp h, hp]
 simp only [asAddr, Sem.run_pure, Result.andThen_ok, run_loadVar_row w g t ty _ _ d ha hu (by cases d <;> first | rfl | (simp [TypeDesc.isRow] at hd)) (by rw [List.size_toArray, hn]; exact hi)]
def zeroH : List UInt8 := List.replicate 32 0
theorem txB_most2 (t : TTx) (hs : txSane t = true) (ho : ∀ i ∈ t.ins, i.ok) : (txB t).length ≤ 20100000 := by
 obtain ⟨⟨c1, c2, c3⟩, s1, s2⟩ := (txSane_iff t).1 hs
 have h := fun n => (Cm.size_le n).2
 have hi := flat_le inB 10049 t.ins fun i hi => inB_length i (ho i hi).1 (s1 i hi)
 have hu := flat_le outBs 10017 t.outs fun i hi => outBs_length i (s2 i hi)
 have e1 : t.ins.length * 10049 ≤ 1000 * 10049 := Nat.mul_le_mul_right _ c2
 have e2 : t.outs.length * 10017 ≤ 1000 * 10017 := Nat.mul_le_mul_right _ c3
 simp only [txB, List.length_append, Cm.lo_length, Cm.put_length]
 have h1 := h t.ins.length
 have h2 := h t.outs.length
 omega
set_option maxRecDepth 100000 in
set_option maxHeartbeats 2000000 in
theorem TId_ok (ver lock : Nat) (hv : ver < 4294967296) (hlk : lock < 4294967296) (l : List (TIn × Sl)) (m : List (TOut × Sl)) (A1 A2 : Option Addr) (n1 n2 c1 c2 : Nat) (hn1 : l.length = n1) (hn2 : m.length = n2) (w : World) (h1 : RdIns w A1 l) (h2 : RdOuts w A2 m) (ht : Tabs w) (hs : txSane (txOf ver l m lock) = true) :
  Calls Tryd.prog 22 #[.agg #[.int .u32 (ver : Int), .slice A1 n1 c1, .slice A2 n2 c2, .int .u32 (lock : Int)]] w fun e w' => e = .returned (.tuple #[.agg (hcs (dblB (txB (txOf ver l m lock)))), .int .i64 0]) ∧ Below w.heap.size w w' := by
 have hz := zeros_32
 have hzl : (List.replicate 32 (0 : UInt8)).length = 32 := by simp
 obtain ⟨zs, hzs⟩ : ∃ zs : List UInt8, zs = List.replicate 32 0 := ⟨_, rfl⟩
 rw [← hzs] at hz hzl
 have hzz : zeroH = zs := hzs.symm
 clear hzs
 replace hzl := Lib.hid hzl
 replace hzz := Lib.hid hzz
 obtain ⟨W, hW⟩ : ∃ W, W = ((w.alloc (.cells #[.int .u32 (ver : Int), .slice A1 n1 c1, .slice A2 n2 c2, .int .u32 (lock : Int)] 75)).alloc (.cells (zs.map bv).toArray 30)) := ⟨_, rfl⟩
 obtain ⟨H, hH⟩ : ∃ H, H = w.heap.size := ⟨_, rfl⟩
 have bW : Below w.heap.size w W := by rw [hW]; exact ((Below.refl _ _).alloc (Nat.le_refl _) _).alloc (by simp) _
 have aW : Av W H 75 [.int .u32 (ver : Int), .slice A1 n1 c1, .slice A2 n2 c2, .int .u32 (lock : Int)] := by rw [hW, hH]; exact heap_alloc2_old _ _ _
 have zW : Av W (H + 1) 30 (zs.map bv) := by rw [hW, hH]; exact heap_alloc2_new _ _ _
 replace hW := Lib.hid hW
 replace hH := Lib.hid hH
 have HP := Lib.hid (fun w' q1 q2 => TPut_ok ver lock hv hlk l m A1 A2 n1 n2 c1 c2 hn1 hn2 w' q1 q2 hs)
 have hmost := txB_most2 (txOf ver l m lock) hs (by
  intro i hi
  obtain ⟨x, hx, rfl⟩ := List.mem_map.1 hi
  exact (h1.2 x hx).1)
 obtain ⟨ps, hps⟩ : ∃ ps, ps = txB (txOf ver l m lock) := ⟨_, rfl⟩
 rw [← hps] at HP hmost ⊢
 obtain ⟨K, hK⟩ : ∃ K, K = ps.length := ⟨_, rfl⟩
 rw [← hK] at hmost
 obtain ⟨dd, hdd⟩ : ∃ l, l = dblB ps := ⟨_, rfl⟩
 have hdl : dd.length = 32 := by rw [hdd, dblB_length]
 rw [← hdd]
 have HD := fun A c w' hc q t => Double ps A K c hK.symm hc (by omega) w' q t
 rw [← hdd] at HD
 replace HD := Lib.hid HD
 replace hdl := Lib.hid hdl
 replace hdd := Lib.hid hdd
 replace hK := Lib.hid hK
 replace hps := Lib.hid hps
 clear hs hn1 hn2
 go_enter Tryd.func22, Tryd.ntmps22
 go_upto_region 1 with fail
 rw [← hW.out, ← hH.out]
 go_upto_region 4 with (first
  | ((with_reducible refine wpList_loadF 75 aW ?_ _ 4 ?_ Tryd.underlying75 ?_ ?_ ?_); rfl; rfl; rfl; kernel_rfl)
  | (go_at_call 49; refine (HP.out _ (h1.below bW) (h2.below bW)).mono ?_; rintro e w4 ⟨v4, rfl, ho, b4⟩; obtain ⟨A4, c4, rfl, hc4, _⟩ := ho.formN K hK.out.symm))
 have bw4 := bW.trans (b4.mono bW.size)
 have z4 := zW.below b4
 have hH4 : w.heap.size ≤ H + 1 := by rw [hH.out]; omega
 have hr4 := ho.rd
 clear ho
 go_wp2_with fail
 refine (HD.out A4 c4 w4 hc4 hr4 (ht.below bw4)).mono ?_
 rintro e w5 ⟨rfl, b5⟩
 have bw5 := bw4.trans (b5.mono bw4.size)
 have z5 := z4.below b5
 go_wp2_with (refine wpList_storeAv bw5 z5 hH4 rfl _ _ _ rfl rfl (dd.map bv) rfl 32 (by rw [List.length_map, hdl.out]) (by kernel_rfl) (by rw [List.size_toArray, List.length_map]; exact hzl.out) (by simp [Value.oneCell']) ?_; intro w6 a6 b6 k6 z6)
 refine bodyPost_ret (v := .tuple #[.agg (dd.map bv).toArray, .int .i64 0]) ((results_cellAv1 (C := dd.map bv) (by rfl) (by rfl) a6 _ Tryd.underlying30 rfl 32 (by rw [List.length_map, hdl.out]) (by kernel_rfl)).trans (by rfl)) (by rfl) ?_
 exact ⟨rfl, b6⟩
end Go.Proofs.YtobjgebojhjhnaaDoor
