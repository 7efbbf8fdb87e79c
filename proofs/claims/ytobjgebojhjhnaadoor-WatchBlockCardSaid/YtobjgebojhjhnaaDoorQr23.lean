import Derived.Test.YtobjgebojhjhnaaDoorQr22
import Derived.Test.YtobjgebojhjhnaaDoorQr10
import Derived.Test.YtobjgebojhjhnaaDoorQr2
namespace Go.Proofs.YtobjgebojhjhnaaDoor
open Go.RowKit
end Go.Proofs.YtobjgebojhjhnaaDoor
namespace Go.Proofs.YtobjgebojhjhnaaDoor
open Go.RowKit
theorem bl_places : (match Tryd.prog.underlying 47 with | some (.struct fs) => fs.toList.mapM (fun f => (Tryd.prog.info? f.type).map fun i => (f.offset, i.size)) | _ => none) = some [(0, 68), (68, 1), (69, 1), (70, 1)] := by kernel_rfl
theorem bl_zero : (Tryd.prog.info? 47).map (·.zero) = some (some (.agg (blc zeroNd.head 0 none 0 0 none 0 0).toArray)) := by kernel_rfl
theorem zeroHead_len : (hdc zeroNd.head).length = 68 := rfl
set_option maxRecDepth 10000 in
theorem bl_built (h : Hd) (k : h.ok) (tot : Nat) (Ah : Option Addr) (nh ch : Nat) (Af : Option Addr) (nf cf : Nat) : Tryd.prog.built 47 [(0, .agg (hdc h).toArray), (1, .int .u32 (tot : Int)), (2, .slice Ah nh ch), (3, .slice Af nf cf)] = some (blc h tot Ah nh ch Af nf cf).toArray := by
 have hp := bl_places
 rw [Tryd.underlying47] at hp
 rw [built_struct Tryd.underlying47 bl_zero hp]
 have h68 := hdc_length k
 have z68 := zeroHead_len
 show Instr.fill _ (([] ++ (hdc zeroNd.head ++ [Value.int .u32 0, Value.slice none 0 0, Value.slice none 0 0])) : List Value).toArray _ = some (hdc h ++ [Value.int .u32 (tot : Int), Value.slice Ah nh ch, Value.slice Af nf cf]).toArray
 generalize hdc zeroNd.head = Z at *
 refine Eq.trans (fill_step [] Z (hdc h) _ (off := 0) (size := 68) rfl rfl h68 rfl z68) ?_
 rw [show ([] ++ (hdc h ++ [Value.int .u32 0, Value.slice none 0 0, Value.slice none 0 0]) : List Value) = hdc h ++ ([Value.int .u32 0] ++ [Value.slice none 0 0, Value.slice none 0 0]) from rfl]
 refine Eq.trans (fill_step (hdc h) [Value.int .u32 0] [Value.int .u32 (tot : Int)] _ (off := 68) (size := 1) rfl rfl rfl h68 rfl) ?_
 rw [show (hdc h ++ ([Value.int .u32 (tot : Int)] ++ [Value.slice none 0 0, Value.slice none 0 0]) : List Value) = (hdc h ++ [Value.int .u32 (tot : Int)]) ++ ([Value.slice none 0 0] ++ [Value.slice none 0 0]) by simp]
 refine Eq.trans (fill_step (hdc h ++ [Value.int .u32 (tot : Int)]) [Value.slice none 0 0] [Value.slice Ah nh ch] _ (off := 69) (size := 1) rfl rfl rfl (by simp [h68]) rfl) ?_
 rw [show ((hdc h ++ [Value.int .u32 (tot : Int)]) ++ ([Value.slice Ah nh ch] ++ [Value.slice none 0 0]) : List Value) = (hdc h ++ [Value.int .u32 (tot : Int), Value.slice Ah nh ch]) ++ ([Value.slice none 0 0] ++ []) by simp]
 refine Eq.trans (fill_step (hdc h ++ [Value.int .u32 (tot : Int), Value.slice Ah nh ch]) [Value.slice none 0 0] [Value.slice Af nf cf] _ (off := 70) (size := 1) rfl rfl rfl (by simp [h68]) rfl) ?_
 simp [Instr.fill]
theorem rg_cf_id {w : World} {b o : Nat} {s : Cf} (r : w.rangeAt b o (cfc s)) : w.rangeAt b o (s.id.map bv) := fun j u hu => by
 refine r j u ?_
 unfold cfc
 rw [List.getElem?_append_left (List.getElem?_eq_some_iff.1 hu).1]
 exact hu
theorem clamp60 : clampN 60 = 60 := rfl
set_option maxRecDepth 10000 in
set_option maxHeartbeats 4000000 in
theorem Plainly (l : List Hd) (A : Option Addr) (n c : Nat) (hn : l.length = n) (hn2 : n ≤ 1000) (w : World) (ht : Tabs w) (hr : RdHds w A l) :
  Calls Tryd.prog 11 #[.slice A n c] w fun e w' => ∃ v, e = .returned v ∧ TRef w' v (mAll 60 l) ∧ Below w.heap.size w w' := by
 have HN := Lib.hid (TNew 60 w)
 obtain ⟨Bs, hBs⟩ : ∃ B, B = w.heap.size := ⟨_, rfl⟩
 have hBw : w.heap.size ≤ Bs := by rw [hBs]; exact Nat.le_refl _
 rw [clamp60, ← hBs] at HN
 obtain ⟨Z, hZ⟩ : ∃ Z, Z = mAll 60 l := ⟨_, rfl⟩
 rw [← hZ]
 replace hBs := Lib.hid hBs
 replace hZ := Lib.hid hZ
 replace hn := Lib.hid hn
 go_enter Tryd.func11, Tryd.ntmps11
 go_wp2_with (go_at_call 32; refine (HN.out).mono ?_; rintro e w2 ⟨⟨R, M, rfl, T2⟩, b2⟩)
 have b02 : Below w.heap.size w w2 := b2.mono hBw
 go_loopw [4] (fun iv wr => ∃ (k : Nat) (v : Value), k ≤ n ∧ iv = .int .i64 (k : Int) ∧ TAt wr Bs R 60 v M (mAll 60 (l.take k)) ∧ Below w.heap.size w wr) (fun iv _ => n - (intOf iv).toNat)
 case atStart => exact ⟨0, _, by omega, rfl, T2, b02⟩
 case round =>
  clear T2 b02
  obtain ⟨k, v, hk, rfl, T, bw⟩ := hrel
  by_cases hlt : k < n
  ·have t1 : decide ((k : Int) < (n : Int)) = true := by simp; omega
   obtain ⟨x, hx⟩ : ∃ x, l[k]? = some x := ⟨_, List.getElem?_eq_getElem (by rw [hn.out]; exact hlt)⟩
   obtain ⟨b, off, rfl⟩ := hr.adr (by rw [hn.out]; omega)
   obtain ⟨rx, xok⟩ := (hr.below bw).nth k x hx
   have hBr : Bs ≤ wr.heap.size := Nat.le_trans T.hR (Nat.le_of_lt T.av.lt)
   have HA := Lib.hid (TAdd Bs R 60 v M (mAll 60 (l.take k)) x xok wr (ht.below bw) T hBr)
   have hnx := Lib.hid (mAll_take 60 l k x hx)
   have x68 := Lib.hid (hdc_length xok)
   have rx2 := Lib.hid rx
   have m0 : (0 : Int) ≤ (k : Int) := by omega
   have m1 : (k : Int) < (n : Int) := by omega
   replace hx := Lib.hid hx
   clear rx
   go_wp2_with (first
    | ((with_reducible refine wpList_loadMF 32 (hdc x) rx2.out ?_ _ Tryd.underlying32 ?_ ?_ ?_); rfl; rfl; (rw [x68.out]; kernel_rfl))
    | (go_at_call 33; refine (HA.out).mono ?_; rintro e w5 ⟨rfl, ⟨v5, T5⟩, b5, K5⟩))
   rw [← hnx.out] at T5
   replace T5 := Lib.hid T5
   have b05 := Lib.hid (bw.trans (b5.mono hBw))
   refine ⟨⟨k + 1, v5, by omega, by go_num, T5.out, b05.out⟩, ?_⟩
   simp [intOf]; omega
  ·obtain rfl : k = n := by omega
   have t1 : decide ((k : Int) < (k : Int)) = false := by simp
   have htk : l.take k = l := List.take_of_length_le (by rw [hn.out]; exact Nat.le_refl _)
   rw [htk, ← hZ.out] at T
   replace htk := Lib.hid htk
   go_wp2
   go_ret
   exact ⟨_, rfl, T.ref, bw⟩
def wFew (S : List (List UInt8)) (nt nn : Nat) : Bool := (S.all fun s => decide (s.length ≤ 300)) && (decide (S.length ≤ 300) && decide (nt ≤ 60) && decide (nn ≤ 60))
end Go.Proofs.YtobjgebojhjhnaaDoor
namespace Go.Proofs.YtobjgebojhjhnaaDoor
open Go.RowKit
theorem wpList_buildV {P : Program} {t e : TypeId} {size bytes : Nat} (ht : P.underlying t = some (.slice e)) (hi : (P.info? e).map (fun i => (i.size, i.bytes)) = some (size, bytes)) (hz : (P.info? e).map (fun i => (i.zero.map (·.cells.size))) = some (some size)) (h0 : 0 < size) (hb : size ≤ 1000000)
  (cs : List Value) (hc : cs.length = size) (V : Value) (hV : V.cells = cs.toArray) {ops : Array Oper} {rest : List Oper} {a : Act} {w : World} {Q : Exit → Act → World → Prop} {d ty pos af} {y : Operand} (hy : a.eval y = V)
  (k : ∀ w2, w2 = w.alloc (.cells cs.toArray e) → wpList P ops Q rest (a.put d (.slice (some ⟨w.heap.size, 0, none⟩) 1 1)) w2) : wpList P ops Q (⟨d, .buildSlice t 1 #[(0, y)], ty, pos, af, none⟩ :: rest) a w :=
 wpList_execW rfl (exec_buildV ht hi hz h0 hb w cs hc V hV y rfl hy) (k _ rfl)
theorem infoU8 : (Tryd.prog.info? 5).map (fun i => (i.size, i.bytes)) = some (1, 1) := by kernel_rfl
theorem zeroU8 : (Tryd.prog.info? 5).map (fun i => (i.zero.map (·.cells.size))) = some (some 1) := by kernel_rfl
theorem infoHd1 : (Tryd.prog.info? 32).map (fun i => (i.size, i.bytes)) = some (68, 80) := by kernel_rfl
theorem zeroHd1 : (Tryd.prog.info? 32).map (fun i => (i.zero.map (·.cells.size))) = some (some 68) := by kernel_rfl
def inEx : TIn := ⟨List.replicate 32 0, 0, [], 0⟩
def outEx : TOut := ⟨0, [5]⟩
def txEx : TTx := ⟨0, [inEx], [outEx], 0⟩
theorem inEx_ok : inEx.ok := by unfold TIn.ok; decide
theorem outEx_ok : outEx.ok := by unfold TOut.ok; decide
theorem script_ex : wScript [] [5] = ([[5]], 0) := by decide
theorem note_ex : wNote [[5]] [] txEx = ([dblB (txB txEx)], true) := by
 have h1 : txSane txEx = true := by decide
 have h2 : txT txEx [[5]] [] = true := by decide
 unfold wNote noteB
 rw [h1, h2, if_pos (by simp)]
 rfl
def hdEx (I : List UInt8) : Hd := ⟨0, List.replicate 32 0, I, 0, 0, 0⟩
theorem hdEx_ok {I : List UInt8} (h : I.length = 32) : (hdEx I).ok := by
 unfold Hd.ok hdEx
 simp [h]
theorem all_ex (h : Hd) : mAll 60 [h] = [⟨hdId h, h, -1, 0, mWork h.bits⟩] := by
 have e : mAll 60 [h] = (mAdd 60 [] h).1 := rfl
 rw [e]
 unfold mAdd mNode tFind
 simp
theorem find_ex (h : Hd) : tFind (mAll 60 [h]) (hdId h) = some 0 := by
 rw [all_ex]
 simp [tFind]
theorem ext_ex (I : List UInt8) : pExt 1 [I] [1] = some ⟨I, [(0, I)], 1, 1⟩ := by
 have h1 : pMay 1 [I] [1] = true := by simp [pMay]
 have h2 : pHt 1 = 0 := by decide
 have h3 : pDig [1] 0 = some true := by decide
 have h4 : pRest [1] 1 = true := by decide
 have h5 : pRd 1 [1] [I] 0 0 0 0 = some ⟨I, [(0, I)], 1, 1⟩ := by
  rw [pRd, h3]
  simp
 unfold pExt
 rw [if_pos h1, h2, h5]
 simp [pDone, h4]
theorem wProve_yes {ds : List Nd} {T : List (List UInt8)} {N : List Sn} {h : Hd} {tot : Nat} {hs : List (List UInt8)} {fl : List UInt8} {k : Nat} {r : PRes} (h1 : tFind ds (hdId h) = some k) (h2 : pExt tot hs fl = some r) (h3 : r.x = h.root) :
  wProve ds T N h tot hs fl = ((wSeen T (hdId h) r.l N).1, (wSeen T (hdId h) r.l N).2, 0) := by
 unfold wProve
 rw [h1, h2]
 simp only
 rw [if_pos h3]
theorem seen_ex (I B : List UInt8) : wSeen [I] B [(0, I)] [] = ([⟨I, B, 0⟩], 1) := by
 simp [wSeen, wStep]
theorem prove_ex {I : List UInt8} : wProve (mAll 60 [hdEx I]) [I] [] (hdEx I) 1 [I] [1] = ([⟨I, hdId (hdEx I), 0⟩], 1, 0) := by
 rw [wProve_yes (find_ex (hdEx I)) (ext_ex I) rfl]
 have := seen_ex I (hdId (hdEx I))
 generalize wSeen [I] (hdId (hdEx I)) [(0, I)] [] = Z at this ⊢
 rw [this]
theorem dep_ex (h : Hd) : mDep (mAll 60 [h]) 0 0 = 1 := by
 rw [all_ex]
 simp [mDep, mOn, tHgt, tAnc]
theorem confM_some {ns : List Nd} {tip : Int} {s : Sn} {i : Nat} (h : tFind ns s.blk = some i) : confM ns tip s = ⟨s.id, s.blk, s.pos, mDep ns tip i⟩ := by
 unfold confM
 rw [h]
theorem wDepth_one {ns : List Nd} {tip : Int} {x : List UInt8} {s : Sn} (h : wLies ns tip x s = true) : wDepth ns tip x [s] = (confM ns tip s, true) := by
 unfold wDepth
 rw [List.find?_cons_of_pos h]
theorem wLies_of {ns : List Nd} {tip : Int} {x : List UInt8} {s : Sn} (h1 : s.id = x) (h2 : (confM ns tip s).dep = 1) : wLies ns tip x s = true := by
 unfold wLies
 rw [h1, h2]
 simp
theorem depth_gen {ns : List Nd} {I B : List UInt8} (h : tFind ns B = some 0) (d : mDep ns 0 0 = 1) : wDepth ns 0 I [⟨I, B, 0⟩] = (⟨I, B, 0, 1⟩, true) := by
 have h1 := confM_some (ns := ns) (tip := 0) (s := ⟨I, B, 0⟩) h
 rw [d] at h1
 rw [wDepth_one (ns := ns) (tip := 0) (x := I) (s := ⟨I, B, 0⟩) (wLies_of rfl (by rw [h1])), h1]
theorem depth_ex {I : List UInt8} : wDepth (mAll 60 [hdEx I]) 0 I [⟨I, hdId (hdEx I), 0⟩] = (⟨I, hdId (hdEx I), 0, 1⟩, true) := by
 exact depth_gen (find_ex (hdEx I)) (dep_ex (hdEx I))
end Go.Proofs.YtobjgebojhjhnaaDoor
namespace Go.Proofs.YtobjgebojhjhnaaDoor
open Go.RowKit
theorem infoIn1 : (Tryd.prog.info? 101).map (fun i => (i.size, i.bytes)) = some (35, 72) := by kernel_rfl
theorem zeroIn1 : (Tryd.prog.info? 101).map (fun i => (i.zero.map (·.cells.size))) = some (some 35) := by kernel_rfl
theorem infoOut1 : (Tryd.prog.info? 104).map (fun i => (i.size, i.bytes)) = some (2, 32) := by kernel_rfl
theorem zeroOut1 : (Tryd.prog.info? 104).map (fun i => (i.zero.map (·.cells.size))) = some (some 2) := by kernel_rfl
theorem in_len : (inc (inEx, ((none, 0) : Sl))).length = 35 := rfl
theorem out_built (A : Option Addr) : Tryd.prog.built 104 [(1, .slice A 1 1)] = some (outc (outEx, ((A, 1) : Sl))).toArray := by kernel_rfl
theorem tx_built (A B : Option Addr) : Tryd.prog.built 75 [(1, .slice A 1 1), (2, .slice B 1 1)] = some ([.int .u32 0, .slice A 1 1, .slice B 1 1, .int .u32 0] : List Value).toArray := by kernel_rfl
theorem hd_zeroW : (Tryd.prog.info? 32).map (·.zero) = some (some (.agg (hdc zeroNd.head).toArray)) := by kernel_rfl
theorem zeros_HdW : Tryd.zeroCells32 = (hdc zeroNd.head).toArray := by kernel_rfl
theorem hd_placesW : (match Tryd.prog.underlying 32 with | some (.struct fs) => fs.toList.mapM (fun f => (Tryd.prog.info? f.type).map fun i => (f.offset, i.size)) | _ => none) = some [(0, 1), (1, 32), (33, 32), (65, 1), (66, 1), (67, 1)] := by kernel_rfl
set_option maxRecDepth 10000 in
theorem hdE_built (I : List UInt8) (hI : I.length = 32) : Tryd.prog.built 32 [(2, .agg (hcs I))] = some (hdc (hdEx I)).toArray := by
 have hp := hd_placesW
 rw [Tryd.underlying32] at hp
 rw [built_struct Tryd.underlying32 hd_zeroW hp]
 have z32 : ((List.replicate 32 (0 : UInt8)).map bv).length = 32 := rfl
 show Instr.fill _ ((([Value.int .u32 0] ++ (List.replicate 32 (0 : UInt8)).map bv) ++ ((List.replicate 32 (0 : UInt8)).map bv ++ [Value.int .u32 0, Value.int .u32 0, Value.int .u32 0])) : List Value).toArray _ = some ([Value.int .u32 0] ++ ((List.replicate 32 (0 : UInt8)).map bv ++ (I.map bv ++ [Value.int .u32 0, Value.int .u32 0, Value.int .u32 0]))).toArray
 generalize (List.replicate 32 (0 : UInt8)).map bv = Z at *
 refine Eq.trans (fill_step ([Value.int .u32 0] ++ Z) Z (I.map bv) _ (off := 33) (size := 32) rfl rfl (by simpa using hI) (by simp [z32]) z32) ?_
 simp [Instr.fill]
set_option maxRecDepth 10000 in
set_option maxHeartbeats 8000000 in
theorem awake21 (w : World) (ht : Tabs w) : Calls Tryd.prog 9 #[] w fun e w' => e = .returned (.bool true) ∧ Below w.heap.size w w' := by
 have hb0 : Hid (∀ (a : Act) (w' : World) d tp pos af, (execOp a.eval ⟨d, .build 42 #[], tp, pos, af, none⟩).run Tryd.prog w' = .ok (.value (.agg (wtc none none none 0 0 0 0 0 0).toArray)) w') := Lib.hid (fun a w' d tp pos af => by kernel_rfl)
 have hb1 : Hid (∀ (a : Act) (w' : World) d tp pos af, (execOp a.eval ⟨d, .build 101 #[], tp, pos, af, none⟩).run Tryd.prog w' = .ok (.value (.agg (inc (inEx, ((none, 0) : Sl))).toArray)) w') := Lib.hid (fun a w' d tp pos af => by kernel_rfl)
 have HSc := fun w' B (r : Rd w' B (([5] : List UInt8).map bv)) => WScript [] none none none 0 0 0 0 0 0 rfl (by omega) [5] B 1 1 rfl w' (RdBss.nil _ _) r
 rw [List.map_nil, script_ex] at HSc
 dsimp only at HSc
 obtain ⟨I, hI⟩ : ∃ I, I = dblB (txB txEx) := ⟨_, rfl⟩
 have I32 : I.length = 32 := by rw [hI]; exact dblB_length _
 obtain ⟨B, hB⟩ : ∃ B, B = hdId (hdEx I) := ⟨_, rfl⟩
 have B32 : B.length = 32 := by rw [hB]; exact hdId_length _
 have hhok := hdEx_ok I32
 have k32 := Lib.hid (show (I.map bv).length = 32 by rw [List.length_map, I32])
 have ione := Lib.hid (show (I.map bv).all (·.oneCell') = true by rw [List.all_eq_true]; exact bv_one I)
 have h68 := Lib.hid (hdc_length hhok)
 have hone := Lib.hid (List.all_eq_true.2 (hdc_one (hdEx I)))
 have hhb := Lib.hid (hdE_built I I32)
 have hzh := zeros_HdW
 obtain ⟨zs, hzs⟩ : ∃ zs, zs = hdc zeroNd.head := ⟨_, rfl⟩
 have hzl : zs.length = 68 := by rw [hzs]; rfl
 rw [← hzs] at hzh
 clear hzs
 have hzc := zeros_Cf
 obtain ⟨ys, hys⟩ : ∃ ys, ys = cfc zeroCf := ⟨_, rfl⟩
 have hyl : ys.length = 66 := by rw [hys]; exact cfc_length zeroCf_ok
 rw [← hys] at hzc
 clear hys
 replace HSc := Lib.hid HSc
 replace hI := Lib.hid hI
 replace hB := Lib.hid hB
 replace I32 := Lib.hid I32
 replace B32 := Lib.hid B32
 replace hzl := Lib.hid hzl
 replace hyl := Lib.hid hyl
 go_enter Tryd.func9, Tryd.ntmps9
 go_upto_region 2 with (first
  | ((with_reducible refine wpList_buildE (.agg (wtc none none none 0 0 0 0 0 0).toArray) ?_ ?_); exact hb0.out _ _ _ _ _ _)
  | ((with_reducible refine wpList_buildV Tryd.underlying33 infoU8 zeroU8 (by decide) (by decide) ([.int .u8 5]) rfl (.int .u8 5) rfl ?_ ?_); rfl; intro w1 hw1; have b1 : Below w.heap.size w w1 := (by rw [hw1]; exact (Below.refl _ _).alloc (Nat.le_refl _) _); have qw1 : Av w1 w.heap.size 5 ([.int .u8 5]) := (by rw [hw1]; exact heap_alloc_new _ _); replace hw1 := Lib.hid hw1; have r1 : Rd w1 (some ⟨w.heap.size, 0, none⟩) (([5] : List UInt8).map bv) := qw1.rd)
  | (go_at_call 19; refine (HSc.out w1 _ r1).mono ?_; rintro e w2 ⟨A1, n1, c1, S1, rfl, hn1, rS1, eS1, b2⟩; have hn1' : n1 = 1 := (by rw [← hn1, ← List.length_map (f := fun x : List UInt8 × Sl => x.1), eS1]; rfl); subst hn1')
  | ((with_reducible refine wpList_storeF 42 ((Below.refl w2.heap.size w2).alloc (Nat.le_refl _) _) (heap_alloc_new _ _) (Nat.le_refl _) (wtc A1 none none 1 c1 0 0 0 0) ?_ ?_ 3 ?_ ?_ ?_ ?_ ?_); rfl; rfl; exact rfl; kernel_rfl; rfl; exact wtc_one _ _ _ _ _ _ _ _ _; intro w3 a3 b3 kw3 zw3; clear kw3 zw3))
 have B3 : Below w.heap.size w w3 := b1.trans ((b2.trans (b3.mono b2.size)).mono b1.size)
 have rS3 := rS1.below b3
 obtain ⟨G1, hG1⟩ : ∃ g, g = w2.heap.size := ⟨_, rfl⟩
 rw [← hG1] at a3 ⊢
 replace hG1 := Lib.hid hG1
 replace eS1 := Lib.hid eS1
 replace hn1 := Lib.hid hn1
 clear b1 b2 b3 rS1 r1 qw1
 go_upto_region 3 with (first
  | ((with_reducible refine wpList_buildE (.agg (inc (inEx, ((none, 0) : Sl))).toArray) ?_ ?_); exact hb1.out _ _ _ _ _ _)
  | ((with_reducible refine wpList_buildV Tryd.underlying72 infoIn1 zeroIn1 (by decide) (by decide) (inc (inEx, ((none, 0) : Sl))) in_len (.agg (inc (inEx, ((none, 0) : Sl))).toArray) rfl ?_ ?_); rfl; intro w4 hw4; have b4 : Below w3.heap.size w3 w4 := (by rw [hw4]; exact (Below.refl _ _).alloc (Nat.le_refl _) _); have qw4 : Av w4 w3.heap.size 101 (inc (inEx, ((none, 0) : Sl))) := (by rw [hw4]; exact heap_alloc_new _ _); replace hw4 := Lib.hid hw4)
  | ((with_reducible refine wpList_buildV Tryd.underlying33 infoU8 zeroU8 (by decide) (by decide) ([.int .u8 5]) rfl (.int .u8 5) rfl ?_ ?_); rfl; intro w5 hw5; have b5 : Below w4.heap.size w4 w5 := (by rw [hw5]; exact (Below.refl _ _).alloc (Nat.le_refl _) _); have qw5 : Av w5 w4.heap.size 5 ([.int .u8 5]) := (by rw [hw5]; exact heap_alloc_new _ _); replace hw5 := Lib.hid hw5)
  | ((with_reducible refine wpList_buildE (.agg (outc (outEx, ((some ⟨w4.heap.size, 0, none⟩, 1) : Sl))).toArray) ?_ ?_); exact exec_build (cs := outc (outEx, ((some ⟨w4.heap.size, 0, none⟩, 1) : Sl))) (ops := [(1, .tmp 23)]) rfl (out_built _))
  | ((with_reducible refine wpList_buildV Tryd.underlying73 infoOut1 zeroOut1 (by decide) (by decide) (outc (outEx, ((some ⟨w4.heap.size, 0, none⟩, 1) : Sl))) rfl (.agg (outc (outEx, ((some ⟨w4.heap.size, 0, none⟩, 1) : Sl))).toArray) rfl ?_ ?_); rfl; intro w6 hw6; have b6 : Below w5.heap.size w5 w6 := (by rw [hw6]; exact (Below.refl _ _).alloc (Nat.le_refl _) _); have qw6 : Av w6 w5.heap.size 104 (outc (outEx, ((some ⟨w4.heap.size, 0, none⟩, 1) : Sl))) := (by rw [hw6]; exact heap_alloc_new _ _); replace hw6 := Lib.hid hw6)
  | ((with_reducible refine wpList_buildE (.agg ([.int .u32 0, .slice (some ⟨w3.heap.size, 0, none⟩) 1 1, .slice (some ⟨w5.heap.size, 0, none⟩) 1 1, .int .u32 0] : List Value).toArray) ?_ ?_); exact exec_build (cs := [.int .u32 0, .slice (some ⟨w3.heap.size, 0, none⟩) 1 1, .slice (some ⟨w5.heap.size, 0, none⟩) 1 1, .int .u32 0]) (ops := [(1, .tmp 22), (2, .tmp 25)]) rfl (tx_built _ _))
  | ((with_reducible refine wpList_storeF 75 ((Below.refl w6.heap.size w6).alloc (Nat.le_refl _) _) (heap_alloc_new _ _) (Nat.le_refl _) ([.int .u32 0, .slice (some ⟨w3.heap.size, 0, none⟩) 1 1, .slice (some ⟨w5.heap.size, 0, none⟩) 1 1, .int .u32 0]) ?_ ?_ 4 ?_ ?_ ?_ ?_ ?_); rfl; rfl; exact rfl; kernel_rfl; rfl; exact rfl; intro w7 a7 b7 kw7 zw7; clear kw7 zw7))
 have B4 := B3.trans (b4.mono B3.size)
 have b47 : Below w4.heap.size w4 w7 := b5.trans ((b6.trans (b7.mono b6.size)).mono b5.size)
 have b57 : Below w5.heap.size w5 w7 := b6.trans (b7.mono b6.size)
 have B7 := B4.trans (b47.mono B4.size)
 have a37 := a3.below (b4.trans (b47.mono b4.size))
 have rS7 := rS3.below (b4.trans (b47.mono b4.size))
 have rI : RdIns w7 (some ⟨w3.heap.size, 0, none⟩) [(inEx, ((none, 0) : Sl))] := by
  refine ⟨?_, fun e he => ?_⟩
  ·have := (qw4.below b47).rd
   simpa [icl] using this
  ·rw [List.mem_singleton.1 he]
   exact ⟨inEx_ok, Rd.nil _ _, Nat.le_refl _⟩
 have rO : RdOuts w7 (some ⟨w5.heap.size, 0, none⟩) [(outEx, ((some ⟨w4.heap.size, 0, none⟩, 1) : Sl))] := by
  refine ⟨?_, fun e he => ?_⟩
  ·have := (qw6.below b7).rd
   simpa [ocl] using this
  ·rw [List.mem_singleton.1 he]
   exact ⟨outEx_ok, (qw5.below b57).rd, Nat.le_refl _⟩
 obtain ⟨P3, hP3⟩ : ∃ p, p = w3.heap.size := ⟨_, rfl⟩
 obtain ⟨P4, hP4⟩ : ∃ p, p = w4.heap.size := ⟨_, rfl⟩
 obtain ⟨P5, hP5⟩ : ∃ p, p = w5.heap.size := ⟨_, rfl⟩
 obtain ⟨G3, hG3⟩ : ∃ g, g = w6.heap.size := ⟨_, rfl⟩
 rw [← hG3] at a7 ⊢
 rw [← hP3] at a7 rI ⊢
 rw [← hP4] at rO ⊢
 rw [← hP5] at a7 rO ⊢
 replace hP3 := Lib.hid hP3
 replace hP4 := Lib.hid hP4
 replace hP5 := Lib.hid hP5
 replace hG3 := Lib.hid hG3
 clear b4 b5 b6 b7 b47 b57 qw4 qw5 qw6 a3 rS3 B3 B4
 have HNo := fun w' t r1 r2 rs => WNote 0 0 (by omega) (by omega) [(inEx, ((none, 0) : Sl))] [(outEx, ((some ⟨P4, 0, none⟩, 1) : Sl))] (some ⟨P3, 0, none⟩) (some ⟨P5, 0, none⟩) 1 1 1 1 rfl rfl S1 A1 none none 1 c1 0 0 0 0 hn1.out (by omega) [] rfl (by omega) w' t r1 r2 rs (RdHs.nil _ _)
 rw [show txOf 0 [(inEx, ((none, 0) : Sl))] [(outEx, ((some ⟨P4, 0, none⟩, 1) : Sl))] 0 = txEx from rfl, eS1.out, note_ex, ← hI.out] at HNo
 have HId := fun w' r1 r2 t => TId_ok 0 0 (by omega) (by omega) [(inEx, ((none, 0) : Sl))] [(outEx, ((some ⟨P4, 0, none⟩, 1) : Sl))] (some ⟨P3, 0, none⟩) (some ⟨P5, 0, none⟩) 1 1 1 1 rfl rfl w' r1 r2 t (by rw [show txOf 0 [(inEx, ((none, 0) : Sl))] [(outEx, ((some ⟨P4, 0, none⟩, 1) : Sl))] 0 = txEx from rfl]; decide)
 rw [show txOf 0 [(inEx, ((none, 0) : Sl))] [(outEx, ((some ⟨P4, 0, none⟩, 1) : Sl))] 0 = txEx from rfl, ← hI.out] at HId
 dsimp only at HNo
 have t7 := ht.below B7
 replace HNo := Lib.hid HNo
 replace HId := Lib.hid HId
 go_upto_region 4 with (first
  | ((with_reducible refine wpList_loadF 42 a37 ?_ _ 3 rfl Tryd.underlying42 ?_ ?_ ?_); rfl; rfl; kernel_rfl)
  | ((with_reducible refine wpList_loadF 75 a7 ?_ _ 4 rfl Tryd.underlying75 ?_ ?_ ?_); rfl; rfl; kernel_rfl)
  | (go_at_call 20; refine (HNo.out w7 t7 rI rO rS7).mono ?_; rintro e w8 ⟨A2, n2, c2, rfl, hn2, rT8, b8⟩; have hn2' : n2 = 1 := hn2.symm; subst hn2'; clear hn2)
  | ((with_reducible refine wpList_storeF 42 ((Below.refl w8.heap.size w8).alloc (Nat.le_refl _) _) (heap_alloc_new _ _) (Nat.le_refl _) (wtc A1 A2 none 1 c1 1 c2 0 0) ?_ ?_ 3 ?_ ?_ ?_ ?_ ?_); rfl; rfl; exact rfl; kernel_rfl; rfl; exact wtc_one _ _ _ _ _ _ _ _ _; intro w9 a9 b9 kw9 zw9; clear kw9 zw9))
 have b89 := b8.trans (b9.mono b8.size)
 have B9 := B7.trans (b89.mono B7.size)
 have a7' := a7.below b89
 have rI9 := rI.below b89
 have rO9 := rO.below b89
 have rT9 := rT8.below b9
 have t9 := ht.below B9
 obtain ⟨G4, hG4⟩ : ∃ g, g = w8.heap.size := ⟨_, rfl⟩
 rw [← hG4] at a9 ⊢
 replace hG4 := Lib.hid hG4
 clear b8 b9 b89 rT8 a7 rI rO rS7 a37
 go_upto_region 5 with (first
  | ((with_reducible refine wpList_loadF 75 a7' ?_ _ 4 rfl Tryd.underlying75 ?_ ?_ ?_); rfl; rfl; kernel_rfl)
  | (go_at_call 22; refine (HId.out w9 rI9 rO9 t9).mono ?_; rintro e w10 ⟨rfl, b10⟩)
  | ((with_reducible refine wpList_storeF 30 ((Below.refl w10.heap.size w10).alloc (Nat.le_refl _) _) (heap_alloc_new _ _) (Nat.le_refl _) (I.map bv) ?_ ?_ 32 ?_ ?_ ?_ ?_ ?_); rfl; rfl; exact k32.out; kernel_rfl; (first | rfl | simp); exact ione.out; intro w11 i11 b11 kw11 zw11; clear kw11 zw11))
 have b11' := b10.trans (b11.mono b10.size)
 have B11 := B9.trans (b11'.mono B9.size)
 have a11 := a9.below b11'
 have rT11 := rT9.below b11'
 obtain ⟨G6, hG6⟩ : ∃ g, g = w10.heap.size := ⟨_, rfl⟩
 rw [← hG6] at i11 ⊢
 replace hG6 := Lib.hid hG6
 clear b10 b11 b11' a9 rT9 t9 rI9 rO9 a7'
 go_upto_region 6 with (first
  | ((with_reducible refine wpList_loadF 30 i11 ?_ _ 32 k32.out Tryd.underlying30 ?_ ?_ ?_); rfl; rfl; kernel_rfl)
  | ((with_reducible refine wpList_buildE (.agg (hdc (hdEx I)).toArray) ?_ ?_); exact exec_build (cs := hdc (hdEx I)) (ops := [(2, .tmp 38)]) rfl hhb.out)
  | ((with_reducible refine wpList_storeF 32 ((Below.refl w11.heap.size w11).alloc (Nat.le_refl _) _) (heap_alloc_new _ _) (Nat.le_refl _) (hdc (hdEx I)) ?_ ?_ 68 ?_ ?_ ?_ ?_ ?_); rfl; rfl; exact h68.out; kernel_rfl; (rw [List.size_toArray]; exact hzl.out); exact hone.out; intro w12 h12 b12 kw12 zw12; clear kw12 zw12))
 have B12 := B11.trans (b12.mono B11.size)
 have a12 := a11.below b12
 have i12 := i11.below b12
 have rT12 := rT11.below b12
 obtain ⟨G8, hG8⟩ : ∃ g, g = w11.heap.size := ⟨_, rfl⟩
 rw [← hG8] at h12 ⊢
 replace hG8 := Lib.hid hG8
 clear b12 a11 i11 rT11
 have HPl := fun w' t r => Plainly [hdEx I] (some ⟨w12.heap.size, 0, none⟩) 1 1 rfl (by omega) w' t r
 replace HPl := Lib.hid HPl
 have t12 := ht.below B12
 go_upto_region 7 with (first
  | ((with_reducible refine wpList_loadF 32 h12 ?_ _ 68 h68.out Tryd.underlying32 ?_ ?_ ?_); rfl; rfl; kernel_rfl)
  | ((with_reducible refine wpList_buildV Tryd.underlying27 infoHd1 zeroHd1 (by decide) (by decide) (hdc (hdEx I)) h68.out (.agg (hdc (hdEx I)).toArray) rfl ?_ ?_); rfl; intro w13 hw13; have b13 : Below w12.heap.size w12 w13 := (by rw [hw13]; exact (Below.refl _ _).alloc (Nat.le_refl _) _); have qw13 : Av w13 w12.heap.size 32 (hdc (hdEx I)) := (by rw [hw13]; exact heap_alloc_new _ _); replace hw13 := Lib.hid hw13; have r13 : RdHds w13 (some ⟨w12.heap.size, 0, none⟩) [hdEx I] := ⟨(by have := qw13.rd; simpa [hdl] using this), fun e he => by rw [List.mem_singleton.1 he]; exact hhok⟩; have t13 := t12.below b13)
  | (go_at_call 11; refine (HPl.out w13 t13 r13).mono ?_; rintro e w14 ⟨v, rfl, hv, b14⟩))
 have b14' := b13.trans (b14.mono b13.size)
 have B14 := B12.trans (b14'.mono B12.size)
 have a14 := a12.below b14'
 have i14 := i12.below b14'
 have h14 := h12.below b14'
 have rT14 := rT12.below b14'
 clear b13 b14 b14' a12 i12 h12 rT12 r13 qw13 t12 t13 HPl
 have HPr := fun w' D1 D2 t hv rT rh rf => WProve A1 A2 none 1 c1 1 c2 0 0 [I] rfl (by omega) [] rfl (by omega) v (mAll 60 [hdEx I]) (hdEx I) hhok 1 (by omega) [I] (All32.one I32.out) [1] D1 1 1 D2 1 1 rfl rfl (by omega) (by omega) w' t hv rT (RdSns.nil _ _) rh rf
 rw [prove_ex, ← hB.out] at HPr
 dsimp only at HPr
 have hbb := Lib.hid (bl_built (hdEx I) hhok 1)
 replace HPr := Lib.hid HPr
 go_upto_region 8 with (first
  | ((with_reducible refine wpList_loadF 42 a14 ?_ _ 3 rfl Tryd.underlying42 ?_ ?_ ?_); rfl; rfl; kernel_rfl)
  | ((with_reducible refine wpList_loadF 32 h14 ?_ _ 68 h68.out Tryd.underlying32 ?_ ?_ ?_); rfl; rfl; kernel_rfl)
  | ((with_reducible refine wpList_loadF 30 i14 ?_ _ 32 k32.out Tryd.underlying30 ?_ ?_ ?_); rfl; rfl; kernel_rfl)
  | ((with_reducible refine wpList_buildV Tryd.underlying23 infoHh zeroHh (by decide) (by decide) (I.map bv) k32.out (.agg (I.map bv).toArray) rfl ?_ ?_); rfl; intro w15 hw15; have b15 : Below w14.heap.size w14 w15 := (by rw [hw15]; exact (Below.refl _ _).alloc (Nat.le_refl _) _); have qw15 : Av w15 w14.heap.size 30 (I.map bv) := (by rw [hw15]; exact heap_alloc_new _ _); replace hw15 := Lib.hid hw15)
  | ((with_reducible refine wpList_buildV Tryd.underlying33 infoU8 zeroU8 (by decide) (by decide) ([.int .u8 1]) rfl (.int .u8 1) rfl ?_ ?_); rfl; intro w16 hw16; have b16 : Below w15.heap.size w15 w16 := (by rw [hw16]; exact (Below.refl _ _).alloc (Nat.le_refl _) _); have qw16 : Av w16 w15.heap.size 5 ([.int .u8 1]) := (by rw [hw16]; exact heap_alloc_new _ _); replace hw16 := Lib.hid hw16; have b16' := b15.trans (b16.mono b15.size); have t16 := ht.below (B14.trans (b16'.mono B14.size)); have hv16 := hv.below b16'; have rT16 := rT14.below b16'; have rh16 : Rd w16 (some ⟨w14.heap.size, 0, none⟩) (hcl [I]) := (by rw [hcl_one]; exact (qw15.below b16).rd); have rf16 : Rd w16 (some ⟨w15.heap.size, 0, none⟩) (([1] : List UInt8).map bv) := qw16.rd)
  | ((with_reducible refine wpList_buildE (.agg (blc (hdEx I) 1 (some ⟨w14.heap.size, 0, none⟩) 1 1 (some ⟨w15.heap.size, 0, none⟩) 1 1).toArray) ?_ ?_); exact exec_build (cs := blc (hdEx I) 1 (some ⟨w14.heap.size, 0, none⟩) 1 1 (some ⟨w15.heap.size, 0, none⟩) 1 1) (ops := [(0, .tmp 46), (1, .const (.int .u32 1)), (2, .tmp 48), (3, .tmp 49)]) rfl (hbb.out _ _ _ _ _ _))
  | (go_at_call 12; refine (HPr.out w16 _ _ t16 hv16 rT16 rh16 rf16).mono ?_; rintro e w17 ⟨A3, n3, c3, rfl, hn3, rN17, b17⟩; have hn3' : n3 = 1 := hn3.symm; subst hn3'; clear hn3)
  | ((with_reducible refine wpList_storeF 42 ((Below.refl w17.heap.size w17).alloc (Nat.le_refl _) _) (heap_alloc_new _ _) (Nat.le_refl _) (wtc A1 A2 A3 1 c1 1 c2 1 c3) ?_ ?_ 3 ?_ ?_ ?_ ?_ ?_); rfl; rfl; exact rfl; kernel_rfl; rfl; exact wtc_one _ _ _ _ _ _ _ _ _; intro w18 a18 b18 kw18 zw18; clear kw18 zw18))
 have b17' := b17.trans (b18.mono b17.size)
 have b18' := b16'.trans (b17'.mono b16'.size)
 have B18 := B14.trans (b18'.mono B14.size)
 have i18 := i14.below b18'
 have hv18 := hv.below b18'
 have rN18 := rN17.below b18
 obtain ⟨G10, hG10⟩ : ∃ g, g = w17.heap.size := ⟨_, rfl⟩
 rw [← hG10] at a18 ⊢
 replace hG10 := Lib.hid hG10
 have hok60 : TOk (mAll 60 [hdEx I]) := mAll_ok 60 [hdEx I] (fun e he => by rw [List.mem_singleton.1 he]; exact hhok)
 have HDe := fun w' hv r => WDepth A1 A2 A3 1 c1 1 c2 1 c3 [⟨I, B, 0⟩] rfl (by omega) v (mAll 60 [hdEx I]) hok60 0 (by omega) I I32.out w' hv r
 have hdx := depth_ex (I := I)
 rw [← hB.out] at hdx
 rw [hdx] at HDe
 dsimp only at HDe
 obtain ⟨C, hC⟩ : ∃ C : Cf, C = ⟨I, B, 0, 1⟩ := ⟨_, rfl⟩
 rw [← hC] at HDe
 have Cok : C.ok := by rw [hC]; exact ⟨I32.out, B32.out⟩
 have C66 := Lib.hid (cfc_length Cok)
 have Cone := Lib.hid (List.all_eq_true.2 (cfc_one C))
 obtain ⟨_, q65⟩ := cfc_at Cok
 have hCd : C.dep = 1 := by rw [hC]
 have hCi : C.id = I := by rw [hC]
 rw [hCd] at q65
 replace hdx := Lib.hid hdx
 replace HDe := Lib.hid HDe
 replace hC := Lib.hid hC
 replace hCd := Lib.hid hCd
 replace hCi := Lib.hid hCi
 replace q65 := Lib.hid q65
 clear b15 b16 b16' b17 b17' b18 b18' qw15 qw16 t16 hv16 rT16 rh16 rf16 hv rN17 a14 h14 i14 rT14
 go_upto_region 9 with (first
  | ((with_reducible refine wpList_loadF 42 a18 ?_ _ 3 rfl Tryd.underlying42 ?_ ?_ ?_); rfl; rfl; kernel_rfl)
  | ((with_reducible refine wpList_loadF 30 i18 ?_ _ 32 k32.out Tryd.underlying30 ?_ ?_ ?_); rfl; rfl; kernel_rfl)
  | (go_at_call 26; refine (HDe.out w18 hv18 rN18).mono ?_; rintro e w19 ⟨rfl, b19⟩)
  | ((with_reducible refine wpList_storeF 84 ((Below.refl w19.heap.size w19).alloc (Nat.le_refl _) _) (heap_alloc_new _ _) (Nat.le_refl _) (cfc C) ?_ ?_ 66 ?_ ?_ ?_ ?_ ?_); rfl; rfl; exact C66.out; kernel_rfl; (rw [List.size_toArray]; exact hyl.out); exact Cone.out; intro w20 a20 b20 kw20 zw20; clear kw20 zw20))
 have b20' := b19.trans (b20.mono b19.size)
 have B20 := B18.trans (b20'.mono B18.size)
 have i20 := i18.below b20'
 obtain ⟨G13, hG13⟩ : ∃ g, g = w19.heap.size := ⟨_, rfl⟩
 rw [← hG13] at a20 ⊢
 replace hG13 := Lib.hid hG13
 have rid : w20.rangeAt G13 0 (I.map bv) := by have := rg_cf_id (s := C) a20.range0; rw [hCi.out] at this; exact this
 have c65 : w20.cell? ⟨G13, 65, none⟩ = some (.int .i64 1) := a20.cell 65 _ q65.out
 have NI := eqlHg I I I32.out I32.out
 rw [beq_self_eq_true] at NI
 replace NI := Lib.hid NI
 clear b19 b20 b20' a20 a18
 go_wp2_with (first
  | ((with_reducible refine wpList_loadMH 30 (I.map bv) rid ?_ ?_ _ Tryd.underlying30 ?_ ?_ ?_); rfl; rfl; rfl; (rw [k32.out]; kernel_rfl))
  | ((with_reducible refine wpList_loadG 30 i20 ?_ ?_ _ 32 k32.out Tryd.underlying30 ?_ ?_ ?_); rfl; rfl; rfl; kernel_rfl)
  | ((with_reducible refine wpList_binG (op := .eql) (ty := 30) ?_ ?_ ?_ (NI.out _ _ w20) ?_); rfl; rfl; rfl))
 go_ret
 exact ⟨rfl, B20⟩
end Go.Proofs.YtobjgebojhjhnaaDoor
namespace Go.Proofs.YtobjgebojhjhnaaDoor
open Go.RowKit
def Came (T : List (List UInt8)) (I : List UInt8) (ms : List (Nat × List UInt8)) (s : Sn) : Prop := s.blk = I ∧ T.contains s.id = true ∧ ∃ m ∈ ms, m.2 = s.id ∧ (m.1 : Int) = s.pos
def xOut : Option PRes → List UInt8 × List (Nat × List UInt8) × Nat
 | none => (zs32, [], 13)
 | some r => (r.x, r.l, 0)
end Go.Proofs.YtobjgebojhjhnaaDoor
namespace Go.Proofs.YtobjgebojhjhnaaDoor
open Go.RowKit
def EyeW (As At : Option Addr) (ns cs nt ct nn : Nat) (N : List Sn) : VP := fun v w => ∃ A' c', v = .agg (wtc As At A' ns cs nt ct nn c').toArray ∧ RdSns w A' N
theorem EyeW.mono {As At : Option Addr} {ns cs nt ct nn : Nat} {N : List Sn} {v : Value} {w w' : World} (h : Ext w w') : EyeW As At ns cs nt ct nn N v w → EyeW As At ns cs nt ct nn N v w' := by
 rintro ⟨A', c', rfl, r⟩
 exact ⟨A', c', rfl, r.below h⟩
def PrvW (As At : Option Addr) (ns cs nt ct : Nat) (L : List Sn) (k e : Nat) : VP := fun v w => ∃ A' n' c', v = .tuple #[.agg (wtc As At A' ns cs nt ct n' c').toArray, .int .i64 (k : Int), .int .i64 (e : Int)] ∧ L.length = n' ∧ RdSns w A' L
theorem PrvW.mono {As At : Option Addr} {ns cs nt ct : Nat} {L : List Sn} {k e : Nat} {v : Value} {w w' : World} (h : Ext w w') : PrvW As At ns cs nt ct L k e v w → PrvW As At ns cs nt ct L k e v w' := by
 rintro ⟨A', n', c', rfl, hl, r⟩
 exact ⟨A', n', c', rfl, hl, r.below h⟩
def WtW (As At : Option Addr) (ns cs nt ct : Nat) (L : List Sn) : VP := fun v w => ∃ A' n' c', v = .agg (wtc As At A' ns cs nt ct n' c').toArray ∧ L.length = n' ∧ RdSns w A' L
theorem WtW.mono {As At : Option Addr} {ns cs nt ct : Nat} {L : List Sn} {v : Value} {w w' : World} (h : Ext w w') : WtW As At ns cs nt ct L v w → WtW As At ns cs nt ct L v w' := by
 rintro ⟨A', n', c', rfl, hl, r⟩
 exact ⟨A', n', c', rfl, hl, r.below h⟩
def AlcW (b : Nat) : VP := fun v w => ∃ g, v = .pointer (some ⟨g, 0, none⟩) ∧ b ≤ g ∧ Av w g 42 [.slice none 0 0, .slice none 0 0, .slice none 0 0]
theorem AlcW.mono {b : Nat} {v : Value} {w w' : World} (h : Ext w w') : AlcW b v w → AlcW b v w' := by
 rintro ⟨g, rfl, hg, a⟩
 exact ⟨g, rfl, hg, a.below h⟩
theorem RdSns.off {w w' : World} {A : Option Addr} {L : List Sn} {g : Nat} {t : TypeId} (r : RdSns w A L) (a : Av w g t [.slice none 0 0, .slice none 0 0, .slice none 0 0]) (f : Fr (fun k => k = g) w w') : RdSns w' A L := by
 cases L with
 | nil => exact RdSns.nil _ _
 | cons s L =>
  refine ⟨f.rd r.1 ?_, r.2⟩
  rintro ad hA hg
  have sok := r.2 s (List.mem_cons_self ..)
  obtain ⟨b, off, hA2⟩ := r.adr (by simp)
  rw [hA] at hA2
  injection hA2 with hA2
  subst hA2
  rw [hA] at r
  have rs := (r.nth 0 s rfl).1
  have hid : ∃ x, s.id[0]? = some x := ⟨_, List.getElem?_eq_getElem (by rw [sok.1]; omega)⟩
  obtain ⟨x, hx⟩ := hid
  have h1 := rg_sn_id rs 0 (bv x) (by rw [List.getElem?_map, hx]; rfl)
  have hb : b = g := hg
  subst hb
  rw [cell_of_row w b _ _ t _ a] at h1
  simp only [Nat.zero_mul, Nat.add_zero, List.getElem?_toArray] at h1
  have hm := List.mem_of_getElem? h1
  simp [bv] at hm
section
variable {P : Program} {ops : Array Oper} {R : World → World → Prop} {Q : Exit → Act → World → Prop} {w0 : World} {L : List (Nat × VP)} {i : Nat} {o : Oper} {rest : List Oper} {l l' : List Value} {d : List Deferred}
end
end Go.Proofs.YtobjgebojhjhnaaDoor
