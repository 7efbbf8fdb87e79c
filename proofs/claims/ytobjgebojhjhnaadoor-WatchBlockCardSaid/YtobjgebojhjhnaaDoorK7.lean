import Derived.Test.YtobjgebojhjhnaaDoorQr23
import Derived.Test.YtobjgebojhjhnaaDoorQr21
import Derived.Test.YtobjgebojhjhnaaDoorQr16
namespace Go.Proofs.YtobjgebojhjhnaaDoor
open Go.RowKit
def mcnt (ms : List Bool) (hs : List (List UInt8)) (i : Nat) : Nat := ((List.range i).filterMap fun p => if ms.getD p false then some (p, hs.getD p []) else none).length
theorem mcnt_le (ms : List Bool) (hs : List (List UInt8)) (i : Nat) : mcnt ms hs i ≤ i := by
 have := List.length_filterMap_le (fun p => if ms.getD p false then some (p, hs.getD p []) else none) (List.range i)
 rw [List.length_range] at this
 exact this
theorem mcnt_succ (ms : List Bool) (hs : List (List UInt8)) (i : Nat) : mcnt ms hs (i + 1) = mcnt ms hs i + if ms.getD i false then 1 else 0 := by
 unfold mcnt
 rw [List.range_succ, List.filterMap_append, List.length_append]
 congr 1
 rw [List.filterMap_cons]
 split <;> rename_i h <;> split at h <;> simp_all
theorem mts_mem {n : Nat} {ms : List Bool} {hs : List (List UInt8)} {p : Nat × List UInt8} (h : p ∈ mts n ms hs) : p.1 < n ∧ ms.getD p.1 false = true ∧ p.2 = hs.getD p.1 [] := by
 unfold mts at h
 obtain ⟨q, hq, he⟩ := List.mem_filterMap.1 h
 split at he
 ·rename_i hm
  obtain rfl := Option.some.inj he
  exact ⟨List.mem_range.1 hq, hm, rfl⟩
 ·cases he
theorem mts_pair (n : Nat) (ms : List Bool) (hs : List (List UInt8)) : (mts n ms hs).Pairwise fun p q => p.1 < q.1 := by
 unfold mts
 rw [List.pairwise_filterMap]
 refine List.Pairwise.imp ?_ List.pairwise_lt_range
 intro a b hab x hx y hy
 split at hx
 ·split at hy
  ·obtain rfl := Option.some.inj hx
   obtain rfl := Option.some.inj hy
   exact hab
  ·cases hy
 ·cases hx
theorem wFold_all (T : List (List UInt8)) (I : List UInt8) : ∀ (l : List (Nat × List UInt8)) (D : List Sn) (k : Nat), (∀ m ∈ l, T.contains m.2 = true) → l.Pairwise (fun p q => p.1 < q.1) → (∀ s ∈ D, ∀ m ∈ l, s.pos < (m.1 : Int)) → D.length + l.length ≤ 4096 →
  l.foldl (wStep T I) (D, k) = (D ++ l.map (fun m => ⟨m.2, I, (m.1 : Int)⟩), k + l.length)
 | [], D, k, _, _, _, _ => by simp
 | m :: l, D, k, hT, hp, hD, hl => by
  rw [List.length_cons] at hl
  have h1 : decide (4096 ≤ D.length) = false := by simp; omega
  have h2 : D.contains (Sn.mk m.2 I (m.1 : Int)) = false := by
   rw [Bool.eq_false_iff]
   intro h
   rw [List.contains_iff_mem] at h
   have := hD _ h m (List.mem_cons_self ..)
   exact absurd this (Int.lt_irrefl _)
  have e : wStep T I (D, k) m = (D ++ [⟨m.2, I, (m.1 : Int)⟩], k + 1) := by
   unfold wStep
   rw [if_neg]
   rw [h1, hT m (List.mem_cons_self ..), h2]
   decide
  obtain ⟨hp1, hp2⟩ := List.pairwise_cons.1 hp
  rw [List.foldl_cons, e, wFold_all T I l _ _ (fun x hx => hT x (List.mem_cons_of_mem _ hx)) hp2 ?_ (by simp; omega)]
  ·simp; omega
  ·intro s hs x hx
   rcases List.mem_append.1 hs with hs | hs
   ·exact hD s hs x (List.mem_cons_of_mem _ hx)
   ·rw [List.mem_singleton.1 hs]
    have := hp1 x hx
    show (m.1 : Int) < (x.1 : Int)
    omega
def mMs (T hs : List (List UInt8)) : List Bool := hs.map fun x => T.contains x
theorem mMs_at {T hs : List (List UInt8)} {i : Nat} {x : List UInt8} (h : hs[i]? = some x) : (mMs T hs).getD i false = T.contains x := by
 unfold mMs
 rw [List.getD_eq_getElem?_getD, List.getElem?_map, h]
 rfl
theorem wProve_block {T hs : List (List UInt8)} (_ : All32 hs) {n : Nat} (hn : hs.length = n) (h0 : 0 < n) (h1 : n ≤ 24) (ha : mAlike (mLv hs) = false) {hd : Hd} (hr : hd.root = mRootOf (mLv hs)) :
  wProve (mAll 60 [hd]) T [] hd n (pBhs hs (mMs T hs)) (pBfl n (mMs T hs)) = ((mts n (mMs T hs) hs).map (fun m => ⟨m.2, hdId hd, (m.1 : Int)⟩), (mts n (mMs T hs) hs).length, 0) := by
 have hx := pExt_built hs (mMs T hs) n hn h0 (by omega)
 rw [pOk_unlike hs (mMs T hs) n hn h0 (by omega) ha, if_pos rfl] at hx
 rw [wProve_yes (find_ex hd) hx hr.symm]
 have hl : (mts n (mMs T hs) hs).length ≤ n := mcnt_le (mMs T hs) hs n
 have hf := wFold_all T (hdId hd) (mts n (mMs T hs) hs) [] 0 (fun m hm => by
  obtain ⟨q1, q2, q3⟩ := mts_mem hm
  have hg : hs[m.1]? = some (hs.getD m.1 []) := by rw [List.getD_eq_getElem?_getD, List.getElem?_eq_getElem (by omega)]; rfl
  rw [mMs_at hg] at q2
  rw [q3]
  exact q2) (mts_pair n _ hs) (fun s hs => by cases hs) (by simp; omega)
 have e : wSeen T (hdId hd) (mts n (mMs T hs) hs) [] = ((mts n (mMs T hs) hs).map (fun m => ⟨m.2, hdId hd, (m.1 : Int)⟩), (mts n (mMs T hs) hs).length) := by
  unfold wSeen
  rw [hf]
  simp
 dsimp only
 rw [e]
theorem pB_facts (hs : List (List UInt8)) (h32 : All32 hs) (ms : List Bool) (n : Nat) (hn : hs.length = n) (h0 : 0 < n) (h1 : n ≤ 24) : All32 (pBhs hs ms) ∧ (pBhs hs ms).length ≤ 24 ∧ (pBfl n ms).length ≤ 10000 := by
 obtain ⟨b0, b1, b2⟩ := pBhs_length hs ms n hn h0 (by omega)
 have hvl := pVis_length n ms (pHt n) 0
 have hp13 : 2 ^ (pHt n + 1) ≤ 2 ^ 13 := Nat.pow_le_pow_right (by omega) (by have := (pHt_spec n (by omega)).1; omega)
 have hfl := pBfl_length n ms
 refine ⟨?_, by omega, by unfold pAll at hfl; omega⟩
 unfold pBhs
 rw [hn]
 refine pHs_32 (fun l hl => (mLv_mem hs h32 l hl).1) (fun v hv _ => ?_)
 obtain ⟨l, y, q1, q2, _⟩ := lvq_at hs n hn h0 (by omega) v.h v.i (pVis_mem n ms _ _ v hv) (pVis_ok h0 ms _ _ (pHt_pos n h0) v hv)
 exact ⟨l, y, q1, q2⟩
theorem mRoot_32 (hs : List (List UInt8)) (h32 : All32 hs) : (mRootOf (mLv hs)).length = 32 := by
 have := mRootOf_length hs h32 (mLv hs).length
 rwa [List.take_length] at this
theorem Rd.bool_at {v : World} {b off : Nat} {ms : List Bool} (h : Rd v (some ⟨b, off, none⟩) (ms.map Value.bool)) (k : Nat) (hk : k < ms.length) : v.cell? ⟨b, off + k, none⟩ = some (.bool (ms.getD k false)) := by
 rcases h with h | ⟨b', o', hA', hc⟩
 ·have := congrArg List.length h; rw [List.length_map, List.length_nil] at this; omega
 ·cases hA'
  exact hc k _ (by rw [List.getElem?_map, List.getElem?_eq_getElem hk, List.getD_eq_getElem?_getD, List.getElem?_eq_getElem hk]; rfl)
def mWat (T : List (List UInt8)) (x : List UInt8) (k : Nat) : Bool := (T.take k).any fun t => t == x
theorem mWat_step {T : List (List UInt8)} {x : List UInt8} {k : Nat} {t : List UInt8} (h : T[k]? = some t) : mWat T x (k + 1) = (mWat T x k || (t == x)) := by
 unfold mWat
 rw [List.take_add_one, h]
 simp
theorem mWat_end {T : List (List UInt8)} {x : List UInt8} : mWat T x T.length = T.contains x := by
 unfold mWat
 rw [List.take_length, Bool.eq_iff_iff, List.any_eq_true, List.contains_iff_mem]
 constructor
 ·rintro ⟨t, h1, h2⟩
  rw [← eq_of_beq h2]
  exact h1
 ·intro h
  exact ⟨x, h, by simp⟩
def hdN (R : List UInt8) (nc : Nat) : Hd := ⟨0, List.replicate 32 0, R, 0, 0, nc⟩
theorem hdN_ok {R : List UInt8} (h : R.length = 32) {nc : Nat} (h2 : nc < 4294967296) : (hdN R nc).ok := ⟨by show 0 < 4294967296; decide, by simp [hdN], h, by show 0 < 4294967296; decide, by show 0 < 4294967296; decide, h2⟩
set_option maxRecDepth 10000 in
theorem hdN_built (R : List UInt8) (hR : R.length = 32) (nc : Nat) : Tryd.prog.built 32 [(2, .agg (hcs R)), (5, .int .u32 (nc : Int))] = some (hdc (hdN R nc)).toArray := by
 have hp := hd_placesW
 rw [Tryd.underlying32] at hp
 rw [built_struct Tryd.underlying32 hd_zeroW hp]
 have z32 : ((List.replicate 32 (0 : UInt8)).map bv).length = 32 := rfl
 show Instr.fill _ ((([Value.int .u32 0] ++ (List.replicate 32 (0 : UInt8)).map bv) ++ ((List.replicate 32 (0 : UInt8)).map bv ++ [Value.int .u32 0, Value.int .u32 0, Value.int .u32 0])) : List Value).toArray _ = some ([Value.int .u32 0] ++ ((List.replicate 32 (0 : UInt8)).map bv ++ (R.map bv ++ [Value.int .u32 0, Value.int .u32 0, Value.int .u32 (nc : Int)]))).toArray
 generalize (List.replicate 32 (0 : UInt8)).map bv = Z at *
 refine Eq.trans (fill_step ([Value.int .u32 0] ++ Z) Z (R.map bv) _ (off := 33) (size := 32) rfl rfl (by simpa using hR) (by simp [z32]) z32) ?_
 rw [show (([Value.int .u32 0] ++ Z) ++ (R.map bv ++ [Value.int .u32 0, Value.int .u32 0, Value.int .u32 0]) : List Value) = ([Value.int .u32 0] ++ (Z ++ (R.map bv ++ [Value.int .u32 0, Value.int .u32 0]))) ++ ([Value.int .u32 0] ++ []) by simp]
 refine Eq.trans (fill_step ([Value.int .u32 0] ++ (Z ++ (R.map bv ++ [Value.int .u32 0, Value.int .u32 0]))) [Value.int .u32 0] [Value.int .u32 (nc : Int)] _ (off := 67) (size := 1) rfl rfl rfl (by simp [hR, z32]) rfl) ?_
 simp [Instr.fill]
theorem wT_built (At : Option Addr) (nt ct : Nat) : Tryd.prog.built 42 [(1, .slice At nt ct)] = some (wtc none At none 0 0 nt ct 0 0).toArray := by kernel_rfl
theorem infoBoW : (Tryd.prog.info? 4).map (fun i => (i.size, i.bytes)) = some (1, 1) := by kernel_rfl
theorem zeroBoW : (Tryd.prog.info? 4).map (fun i => (i.zero.map (·.cells.size))) = some (some 1) := by kernel_rfl
def SlHd (h : Hd) : VP := fun v w => ∃ k, v = .slice (some ⟨k, 0, none⟩) 1 1 ∧ Rd w (some ⟨k, 0, none⟩) (hdc h)
theorem SlHd.mono {h : Hd} {v : Value} {w w' : World} (e : Ext w w') : SlHd h v w → SlHd h v w' := by
 rintro ⟨k, rfl, r⟩
 exact ⟨k, rfl, r.below e⟩
def TreW (ds : List Nd) : VP := fun v w => TRef w v ds
theorem TreW.mono {ds : List Nd} {v : Value} {w w' : World} (e : Ext w w') : TreW ds v w → TreW ds v w' := fun h => TRef.below h e
set_option maxRecDepth 100000 in
set_option maxHeartbeats 8000000 in
theorem wblk_far (T : List (List UInt8)) (At : Option Addr) (nt ct : Nat) (hT : T.length = nt) (hs : List (List UInt8)) (B : Option Addr) (n c : Nat) (hn : hs.length = n) (nc : Nat) (_ : nc < 4294967296)
  (w : World) (ht : Tabs w) (_ : RdHs w At T) (_ : RdHs w B hs) (hfar : ¬ (nt ≤ 40 ∧ n ≤ 24 ∧ 0 < n)) :
  Calls Tryd.prog 8 #[.slice At nt ct, .slice B n c, .int .u32 (nc : Int)] w fun e w' => e = .returned (.bool true) ∧ Below w.heap.size w w' := by
 by_cases h40 : 40 < nt
 · have t1 : decide ((40 : Int) < (nt : Int)) = true := by simp; omega
   have t1' : decide (40 < nt) = true := by simp; omega
   clear hfar
   have HA := Lib.hid (awake21 w ht)
   replace hT := Lib.hid hT
   replace hn := Lib.hid hn
   go_enter Tryd.func8, Tryd.ntmps8
   go_wp2_with (go_at_call 9; refine (HA.out).mono ?_; rintro e w1 ⟨rfl, b1⟩)
   go_ret
   exact ⟨rfl, b1⟩
 ·by_cases h24 : 24 < n
  · have t1 : decide ((40 : Int) < (nt : Int)) = false := by simp; omega
    have t1' : decide (40 < nt) = false := by simp; omega
    have t2 : decide ((24 : Int) < (n : Int)) = true := by simp; omega
    have t2' : decide (24 < n) = true := by simp; omega
    clear hfar
    have HA := Lib.hid (awake21 w ht)
    replace hT := Lib.hid hT
    replace hn := Lib.hid hn
    go_enter Tryd.func8, Tryd.ntmps8
    go_wp2_with (go_at_call 9; refine (HA.out).mono ?_; rintro e w1 ⟨rfl, b1⟩)
    go_ret
    exact ⟨rfl, b1⟩
  ·obtain rfl : n = 0 := by omega
   have t1 : decide ((40 : Int) < (nt : Int)) = false := by simp; omega
   have t1' : decide (40 < nt) = false := by simp; omega
   clear hfar
   have HA := Lib.hid (awake21 w ht)
   replace hT := Lib.hid hT
   replace hn := Lib.hid hn
   go_enter Tryd.func8, Tryd.ntmps8
   go_wp2_with (go_at_call 9; refine (HA.out).mono ?_; rintro e w1 ⟨rfl, b1⟩)
   go_ret
   exact ⟨rfl, b1⟩
set_option maxRecDepth 100000 in
set_option maxHeartbeats 16000000 in
theorem wblk_main (T : List (List UInt8)) (At : Option Addr) (nt ct : Nat) (hT : T.length = nt) (hs : List (List UInt8)) (B : Option Addr) (n c : Nat) (hn : hs.length = n) (nc : Nat) (hnc : nc < 4294967296)
  (w : World) (ht : Tabs w) (rT : RdHs w At T) (rH : RdHs w B hs) (hnt40 : nt ≤ 40) (hn24 : n ≤ 24) (h0 : 0 < n) :
  Calls Tryd.prog 8 #[.slice At nt ct, .slice B n c, .int .u32 (nc : Int)] w fun e w' => e = .returned (.bool true) ∧ Below w.heap.size w w' := by
 have t1 : decide ((40 : Int) < (nt : Int)) = false := by simp; omega
 have t1' : decide (40 < nt) = false := by simp; omega
 have t2 : decide ((24 : Int) < (n : Int)) = false := by simp; omega
 have t2' : decide (24 < n) = false := by simp; omega
 have t3 : ((n : Int) == 0) = false := by simp; omega
 have h32 : All32 hs := rH.2
 have HA := Lib.hid (awake21 w ht)
 have HR := fun w' r t => RootAny hs h32 B n c hn w' r t
 have hWB := fun (ha : mAlike (mLv hs) = false) (hd : Hd) (hr : hd.root = mRootOf (mLv hs)) => wProve_block (T := T) h32 hn h0 hn24 ha hr
 obtain ⟨al, hal⟩ : ∃ al, al = mAlike (mLv hs) := ⟨_, rfl⟩
 rw [← hal] at HR hWB
 obtain ⟨R, hR⟩ : ∃ R, R = mRootOf (mLv hs) := ⟨_, rfl⟩
 have R32 : R.length = 32 := by rw [hR]; exact mRoot_32 hs h32
 rw [← hR] at HR hWB
 have r32 := Lib.hid (show (R.map bv).length = 32 by rw [List.length_map, R32])
 have rone := Lib.hid (show (R.map bv).all (·.oneCell') = true by rw [List.all_eq_true]; exact bv_one R)
 obtain ⟨ms, hms⟩ : ∃ ms, ms = mMs T hs := ⟨_, rfl⟩
 have hnm : ms.length = n := by rw [hms, mMs, List.length_map, hn]
 have hmsat : ∀ i x, hs[i]? = some x → ms.getD i false = T.contains x := fun i x h => by rw [hms]; exact mMs_at h
 rw [← hms] at hWB
 have HBd := fun Am cm w' r r2 t => PBuild_yes hs h32 ms B Am n c n cm hn hnm h0 (by omega) (by omega) w' r r2 t
 obtain ⟨hB32, hBl, hFl⟩ := pB_facts hs h32 ms n hn h0 hn24
 obtain ⟨ps, hps⟩ : ∃ q, q = pBhs hs ms := ⟨_, rfl⟩
 obtain ⟨fs, hfs⟩ : ∃ q, q = pBfl n ms := ⟨_, rfl⟩
 rw [← hps, ← hfs] at HBd
 rw [← hps] at hB32 hBl
 rw [← hfs] at hFl
 rw [← hps, ← hfs] at hWB
 obtain ⟨K, hK⟩ : ∃ K, K = ps.length := ⟨_, rfl⟩
 obtain ⟨J, hJ⟩ : ∃ J, J = fs.length := ⟨_, rfl⟩
 rw [← hK, ← hJ] at HBd
 replace hps := Lib.hid hps
 replace hfs := Lib.hid hfs
 replace hK := Lib.hid hK
 replace hJ := Lib.hid hJ
 replace HR := Lib.hid HR
 replace hWB := Lib.hid hWB
 replace HBd := Lib.hid HBd
 replace hal := Lib.hid hal
 replace hR := Lib.hid hR
 replace hms := Lib.hid hms
 replace hnm := Lib.hid hnm
 replace hmsat := Lib.hid hmsat
 replace hn := Lib.hid hn
 replace hT := Lib.hid hT
 go_enter Tryd.func8, Tryd.ntmps8
 go_upto_region 4 with (go_at_call 9; refine (HA.out).mono ?_; rintro e w1 ⟨rfl, b1⟩)
 have H1 := rH.below b1
 have ht1 := ht.below b1
 go_upto_region 5 with (first
  | (go_at_call 30; refine (HR.out w1 H1.1 ht1).mono ?_; rintro e w2 ⟨rfl, b2⟩)
  | ((with_reducible refine wpList_storeF 30 ((Below.refl w2.heap.size w2).alloc (Nat.le_refl _) _) (heap_alloc_new _ _) (Nat.le_refl _) (R.map bv) ?_ ?_ 32 r32.out ?_ ?_ ?_ ?_); rfl; rfl; kernel_rfl; (first | rfl | simp); exact rone.out; intro w3 aR b3 k3 z3; clear k3; replace z3 := Lib.hid z3))
 have b13 := b2.trans (b3.mono b2.size)
 have B3 := b1.trans (b13.mono b1.size)
 obtain ⟨GR, hGR⟩ : ∃ g, g = w2.heap.size := ⟨_, rfl⟩
 rw [← hGR] at aR ⊢
 replace hGR := Lib.hid hGR
 clear b1 b2 b3 b13 H1 ht1 HA HR
 cases al
 case true =>
  go_wp2
  go_ret
  exact ⟨rfl, B3⟩
 case false =>
  obtain ⟨Bs, hBs⟩ : ∃ b, b = w3.heap.size := ⟨_, rfl⟩
  have hBs1 : Bs ≤ w3.heap.size := by rw [hBs]; exact Nat.le_refl _
  have B30 : Below Bs w3 w3 := Below.refl _ _
  replace hBs := Lib.hid hBs
  have T3 := rT.below B3
  have H3 := rH.below B3
  go_wp2
  go_loopw [10, 11, 12] (fun v nv iv wr => ∃ i : Nat, i ≤ n ∧ nv = .int .i64 ((mcnt ms hs i : Nat) : Int) ∧ iv = .int .i64 (i : Int) ∧ wr.ownsRow Bs 4 1 v i ((ms.take i).map Value.bool) ∧ Below Bs w3 wr ∧ Bs ≤ wr.heap.size) (fun _ _ iv _ => n - (intOf iv).toNat)
  case atStart => exact ⟨0, by omega, rfl, rfl, World.ownsRow_nil _ _ _ _, B30, hBs1⟩
  case round =>
   clear B30 hBs1
   obtain ⟨i, hi, rfl, rfl, ow, br, hsz⟩ := hrel
   have brW : Below w3.heap.size w3 wr := by rw [← hBs.out]; exact br
   obtain ⟨q, hq⟩ : ∃ q, q = mcnt ms hs i := ⟨_, rfl⟩
   have hqs := mcnt_succ ms hs i
   have hqi := mcnt_le ms hs i
   rw [← hq] at hqs hqi ⊢
   by_cases hlt : i < n
   ·have u2 : decide ((i : Int) < (n : Int)) = true := by simp; omega
    obtain ⟨x, hx⟩ : ∃ x, hs[i]? = some x := ⟨_, List.getElem?_eq_getElem (by rw [hn.out]; exact hlt)⟩
    have x32 : x.length = 32 := h32 x (List.mem_of_getElem? hx)
    have xk1 := Lib.hid (show (x.map bv).length = 32 by rw [List.length_map, x32])
    obtain ⟨bH, oH, rfl⟩ := H3.adr (by rw [hn.out]; omega)
    have hmi := hmsat.out i x hx
    rw [hmi] at hqs
    have hel : Hid ((ms.take i).map Value.bool ++ [Value.bool (T.contains x)] = (ms.take (i + 1)).map Value.bool) := Lib.hid (by
     have hg : ms[i]? = some (T.contains x) := by
      rw [← hmi, List.getD_eq_getElem?_getD, List.getElem?_eq_getElem (by rw [hnm.out]; exact hlt)]
      rfl
     rw [List.take_add_one, hg]
     simp)
    have m0 : 0 ≤ (i : Int) := by omega
    have m1 : (i : Int) < (n : Int) := by omega
    have C3 : ∀ w', Below wr.heap.size wr w' → w'.rangeAt bH (oH + i * 32) (x.map bv) := fun w' b => ((H3.below brW).below b).nth i x hx
    obtain ⟨w4, hw4⟩ : ∃ w4 : World, w4 = wr := ⟨_, rfl⟩
    subst hw4
    replace hx := Lib.hid hx
    replace hmi := Lib.hid hmi
    replace hq := Lib.hid hq
    replace C3 := Lib.hid C3
    replace hqs := Lib.hid hqs
    replace ow := Lib.hid ow
    go_wp2
    go_loopw [13, 14] (fun fv kv wr => ∃ (j : Nat) (Fv : Bool), j ≤ nt ∧ fv = .bool Fv ∧ kv = .int .i64 (j : Int) ∧ Hid (Fv = mWat T x j) ∧ Below w4.heap.size w4 wr) (fun _ kv _ => nt - (intOf kv).toNat)
    case atStart => exact ⟨0, false, by omega, rfl, rfl, Lib.hid rfl, Below.refl _ _⟩
    case round =>
     have br3 := br
     have brW4 := brW
     clear br brW
     obtain ⟨j, Fv, hj, rfl, rfl, hF, br⟩ := hrel
     by_cases hlt3 : j < nt
     ·have u4 : decide ((j : Int) < (nt : Int)) = true := by simp; omega
      have n0 : 0 ≤ (j : Int) := by omega
      have n1 : (j : Int) < (nt : Int) := by omega
      obtain ⟨z, hp⟩ : ∃ z, T[j]? = some z := ⟨_, List.getElem?_eq_getElem (by rw [hT.out]; exact hlt3)⟩
      obtain ⟨bT, oT, rfl⟩ := T3.adr (by rw [hT.out]; omega)
      have z32' : z.length = 32 := T3.2 z (List.mem_of_getElem? hp)
      have z32 := Lib.hid (show (z.map bv).length = 32 by rw [List.length_map, z32'])
      have C2 : ∀ w', Below w4.heap.size w4 w' → w'.rangeAt bT (oT + j * 32) (z.map bv) := fun w' b => ((T3.below brW4).below b).nth j z hp
      have hF1 := mWat_step (x := x) hp
      rw [← hF.out] at hF1
      have ED := fun p q w => eqlHg z x z32' x32 p q w
      obtain ⟨D2, hD2⟩ : ∃ D2, D2 = (z == x) := ⟨_, rfl⟩
      rw [← hD2] at ED hF1
      clear hp
      replace C2 := Lib.hid C2
      replace ED := Lib.hid ED
      replace hF1 := Lib.hid hF1
      replace hD2 := Lib.hid hD2
      cases Fv
      ·go_upto_region 16 with fail
       refine wp_region_rel [] Ext (by kernel_rfl) (by kernel_rfl) (by kernel_rfl) Ext.refl Ext.trans (by intro p hp; cases hp) ?_
       refine ZM ?_
       refine ZM ?_
       refine ZM ?_
       refine ZM ?_
       refine ZP (c := .pointer (some ⟨bT, oT + j * 32, none⟩)) (fun w _ => by have := n0; have := n1; go_simp; first | done | rfl) ?_
       refine ZP (c := .agg (z.map bv).toArray) (fun w hw => exec_load_mid _ _ rfl bT (oT + j * 32) rfl (z.map bv) _ (C2.out _ (br.trans (hw.drew.mono br.size))) Tryd.underlying30 rfl (by rw [z32.out]; kernel_rfl)) ?_
       refine ZM ?_
       refine ZM ?_
       refine ZP (c := .pointer (some ⟨bH, oH + i * 32, none⟩)) (fun w _ => by have := m0; have := m1; go_simp; first | done | rfl) ?_
       refine ZP (c := .agg (x.map bv).toArray) (fun w hw => exec_load_mid _ _ rfl bH (oH + i * 32) rfl (x.map bv) _ (C3.out _ (br.trans (hw.drew.mono br.size))) Tryd.underlying30 rfl (by rw [xk1.out]; kernel_rfl)) ?_
       refine relBin Ext.refl rfl rfl rfl rfl _ _ _ _ _ rfl (by conv => lhs; whnf) (by conv => lhs; whnf) (c := .bool D2) (fun w => ED.out _ _ w) (by simp only [Zs]; rfl) ?_
       refine ZK ?_
       refine ZM ?_
       refine relEnd fun w5 hw5 => fill_end ?_
       have bw5 := br.trans (hw5.drew.mono br.size)
       go_wp2
       refine ⟨⟨j + 1, D2, by omega, rfl, by go_num, Lib.hid (by rw [hF1.out]; simp), bw5⟩, ?_⟩
       simp only [intOf]
       omega
      ·go_upto_region 16 with fail
       refine wp_region_rel [] Ext (by kernel_rfl) (by kernel_rfl) (by kernel_rfl) Ext.refl Ext.trans (by intro p hp; cases hp) ?_
       refine ZM ?_
       refine ZM ?_
       refine ZS ?_
       refine ZS ?_
       refine ZS ?_
       refine ZS ?_
       refine ZS ?_
       refine ZS ?_
       refine ZS ?_
       refine ZS ?_
       refine ZS ?_
       refine ZK ?_
       refine ZM ?_
       refine relEnd fun w5 hw5 => fill_end ?_
       have bw5 := br.trans (hw5.drew.mono br.size)
       go_wp2
       refine ⟨⟨j + 1, true, by omega, rfl, by go_num, Lib.hid (by rw [hF1.out]; simp), bw5⟩, ?_⟩
       simp only [intOf]
       omega
     ·obtain rfl : j = nt := by omega
      have u4 : decide ((j : Int) < (j : Int)) = false := by simp
      have hFe : Fv = T.contains x := by rw [hF.out, ← hT.out]; exact mWat_end
      obtain ⟨w5, hw5⟩ : ∃ w5 : World, w5 = wr := ⟨_, rfl⟩
      subst hw5
      rw [← hFe] at hel hqs
      have ow5 := own_below ow.out br
      have b5 : Below Bs w3 w5 := br3.trans (br.mono hsz)
      have hs5 : Bs ≤ w5.heap.size := Nat.le_trans hsz br.size
      clear hF hFe ow
      replace ow5 := Lib.hid ow5
      cases Fv
      ·have hq1 : mcnt ms hs (i + 1) = q := by rw [hqs.out]; simp
       replace hq1 := Lib.hid hq1
       go_wp2_with (first
        | ((with_reducible refine wpList_buildV Tryd.underlying96 infoBoW zeroBoW (by decide) (by decide) ([.bool false]) rfl (.bool false) rfl ?_ ?_); rfl; intro w6 hw6; have b6 : Below w5.heap.size w5 w6 := (by rw [hw6]; exact (Below.refl _ _).alloc (Nat.le_refl _) _); have q6 : Rd w6 (some ⟨w5.heap.size, 0, none⟩) [Value.bool false] := (by rw [hw6]; exact Av.rd (t := 4) (heap_alloc_new _ _)); replace hw6 := Lib.hid hw6)
        | (at_builtin; refine wpList_appE Tryd.underlying96 infoBoW zeroBoW (by decide) (own_below ow5.out b6) (by have := b6.size; omega) [Value.bool false] 1 1 q6 rfl (by simp [Value.oneCell']) (by omega) (by omega) rfl (.tmp 72) (.tmp 74) rfl rfl rfl ?_; intro v7 w7 o7 g7 _; have bE := own_app (b5.trans (b6.mono hs5)) (own_below ow5.out b6) g7 (by have := b6.size; omega); have hs7 := g7.size))
       rw [hel.out] at o7
       have hs8 : Bs ≤ w7.heap.size := by have := b6.size; omega
       go_wp2
       refine ⟨⟨i + 1, by omega, by rw [hq1.out], by go_num, o7, bE, hs8⟩, ?_⟩
       simp only [intOf]
       omega
      ·have hq1 : mcnt ms hs (i + 1) = q + 1 := by rw [hqs.out]; simp
       replace hq1 := Lib.hid hq1
       go_wp2_with (first
        | ((with_reducible refine wpList_buildV Tryd.underlying96 infoBoW zeroBoW (by decide) (by decide) ([.bool true]) rfl (.bool true) rfl ?_ ?_); rfl; intro w6 hw6; have b6 : Below w5.heap.size w5 w6 := (by rw [hw6]; exact (Below.refl _ _).alloc (Nat.le_refl _) _); have q6 : Rd w6 (some ⟨w5.heap.size, 0, none⟩) [Value.bool true] := (by rw [hw6]; exact Av.rd (t := 4) (heap_alloc_new _ _)); replace hw6 := Lib.hid hw6)
        | (at_builtin; refine wpList_appE Tryd.underlying96 infoBoW zeroBoW (by decide) (own_below ow5.out b6) (by have := b6.size; omega) [Value.bool true] 1 1 q6 rfl (by simp [Value.oneCell']) (by omega) (by omega) rfl (.tmp 72) (.tmp 74) rfl rfl rfl ?_; intro v7 w7 o7 g7 _; have bE := own_app (b5.trans (b6.mono hs5)) (own_below ow5.out b6) g7 (by have := b6.size; omega); have hs7 := g7.size))
       rw [hel.out] at o7
       have hs8 : Bs ≤ w7.heap.size := by have := b6.size; omega
       go_wp2
       refine ⟨⟨i + 1, by omega, by rw [hq1.out]; go_num, by go_num, o7, bE, hs8⟩, ?_⟩
       simp only [intOf]
       omega
   ·obtain rfl : i = n := by omega
    have u2 : decide ((i : Int) < (i : Int)) = false := by simp
    rw [List.take_of_length_le (by rw [hnm.out]; exact Nat.le_refl _)] at ow
    obtain ⟨Am, cm, rfl, _, _⟩ := own_form ow
    have rM := own_rd ow
    have HB5 := B3.trans (brW.mono B3.size)
    have aR5 := aR.below brW
    have H5 := rH.below HB5
    have t5 := ht.below HB5
    have hzh := zeros_HdW
    have hzs := zeros_Sn
    obtain ⟨ys, hyy⟩ : ∃ ys, ys = hdc zeroNd.head := ⟨_, rfl⟩
    have hyl := Lib.hid (show ys.length = 68 by rw [hyy]; rfl)
    rw [← hyy] at hzh
    obtain ⟨zs, hzz⟩ : ∃ ys, ys = snc ⟨List.replicate 32 0, List.replicate 32 0, 0⟩ := ⟨_, rfl⟩
    have hzl := Lib.hid (show zs.length = 65 by rw [hzz]; rfl)
    rw [← hzz] at hzs
    clear hyy hzz
    obtain ⟨hd, hhd⟩ : ∃ hd, hd = hdN R nc := ⟨_, rfl⟩
    have hdok : hd.ok := by rw [hhd]; exact hdN_ok R32 hnc
    have hdr : hd.root = R := by rw [hhd]; rfl
    have h68 := Lib.hid (hdc_length hdok)
    have hdone := Lib.hid (List.all_eq_true.2 (hdc_one hd))
    have hbt := hdN_built R R32 nc
    rw [← hhd] at hbt
    have hw := hWB.out (by trivial) hd hdr
    obtain ⟨L, hL⟩ : ∃ L, L = (mts i ms hs).map (fun m => (⟨m.2, hdId hd, (m.1 : Int)⟩ : Sn)) := ⟨_, rfl⟩
    rw [← hL] at hw
    have hkq : (mts i ms hs).length = q := hq.symm
    rw [hkq] at hw
    obtain ⟨ds, hds⟩ : ∃ ds, ds = mAll 60 [hd] := ⟨_, rfl⟩
    rw [← hds] at hw
    have HPl := fun g w' t r => Plainly [hd] (some ⟨g, 0, none⟩) 1 1 rfl (by omega) w' t r
    rw [← hds] at HPl
    have hLl : L.length = q := by rw [hL, List.length_map]; exact hkq
    replace hbt := Lib.hid hbt
    replace hw := Lib.hid hw
    replace hL := Lib.hid hL
    replace hds := Lib.hid hds
    replace hhd := Lib.hid hhd
    replace HPl := Lib.hid HPl
    replace hq := Lib.hid hq
    replace hqs := Lib.hid hqs
    replace hkq := Lib.hid hkq
    replace hLl := Lib.hid hLl
    replace hdr := Lib.hid hdr
    replace hmsat := hmsat
    clear ow br hsz aR T3 H3 hWB
    go_upto_region 21 with (first
     | ((with_reducible refine wpList_loadF 30 aR5 ?_ _ 32 r32.out Tryd.underlying30 ?_ ?_ ?_); rfl; rfl; kernel_rfl)
     | ((with_reducible refine wpList_buildE (.agg (hdc hd).toArray) ?_ ?_); exact exec_build (cs := hdc hd) (ops := [(2, .tmp 76), (5, .tmp 77)]) rfl hbt.out)
     | ((with_reducible refine wpList_storeF 32 ((Below.refl wr.heap.size wr).alloc (Nat.le_refl _) _) (heap_alloc_new _ _) (Nat.le_refl _) (hdc hd) ?_ ?_ 68 h68.out ?_ ?_ ?_ ?_); rfl; rfl; kernel_rfl; (rw [List.size_toArray]; exact hyl.out); exact hdone.out; intro w6 hB b6 k6 z6; clear k6; replace z6 := Lib.hid z6))
    obtain ⟨GB, hGB⟩ : ∃ g, g = wr.heap.size := ⟨_, rfl⟩
    rw [← hGB] at hB ⊢
    replace hGB := Lib.hid hGB
    have H6 := H5.below b6
    have rM6 := rM.below b6
    have t6 := t5.below b6
    have HB6 := HB5.trans (b6.mono HB5.size)
    clear aR5 H5 t5 b6 hbt rM
    go_upto_region 22 with (first
     | (go_at_call 31; refine (HBd.out Am cm w6 H6.1 rM6 t6).mono ?_; rintro e w7 ⟨b7, Ah, ch, Af, cf, rfl, _, _, rh7, rf7, _, _⟩)
     | ((with_reducible refine wpList_storeF 53 ((Below.refl w7.heap.size w7).alloc (Nat.le_refl _) _) (heap_alloc_new _ _) (Nat.le_refl _) (trc i Ah K ch Af J cf) ?_ ?_ 3 rfl ?_ ?_ ?_ ?_); rfl; rfl; kernel_rfl; rfl; rfl; intro w9 aT b9 k9 z9; clear k9; replace z9 := Lib.hid z9))
    obtain ⟨GT, hGT⟩ : ∃ g, g = w7.heap.size := ⟨_, rfl⟩
    rw [← hGT] at aT ⊢
    replace hGT := Lib.hid hGT
    have b79 := b7.trans (b9.mono b7.size)
    have HB9 := HB6.trans (b79.mono HB6.size)
    replace hB := hB.below b79
    have rh9 := rh7.below b9
    have rf9 := rf7.below b9
    have rM9 := rM6.below b79
    have t9 := ht.below HB9
    have T9 := rT.below HB9
    have P0 : ∀ w', Below w9.heap.size w9 w' → w'.cell? ⟨GT, 0, none⟩ = some (.int .u32 (i : Int)) := fun w' b => (aT.below b).cell 0 _ rfl
    have P1 : ∀ w', Below w9.heap.size w9 w' → w'.cell? ⟨GT, 1, none⟩ = some (.slice Ah K ch) := fun w' b => (aT.below b).cell 1 _ rfl
    have P2 : ∀ w', Below w9.heap.size w9 w' → w'.cell? ⟨GT, 2, none⟩ = some (.slice Af J cf) := fun w' b => (aT.below b).cell 2 _ rfl
    have HPl := fun g w' t (r : Rd w' (some ⟨g, 0, none⟩) (hdc hd)) => HPl.out g w' t ⟨by rw [show hdl [hd] = hdc hd by simp [hdl]]; exact r, fun x hx => by rw [List.mem_singleton.1 hx]; exact hdok⟩
    have HP := fun v w' t hv rT rh rf => WProve none At none 0 0 nt ct 0 0 T hT.out (by omega) [] rfl (by omega) v ds hd hdok i (by omega) ps hB32 fs Ah K ch Af J cf hK.out.symm hJ.out.symm (by rw [hJ.out]; exact hFl) (by rw [hK.out]; omega) w' t hv rT (RdSns.nil _ _) rh rf
    rw [hw.out] at HP
    dsimp only at HP
    have hbl := Lib.hid (bl_built hd hdok i Ah K ch Af J cf)
    replace HPl := Lib.hid HPl
    replace HP := Lib.hid HP
    replace P0 := Lib.hid P0
    replace P1 := Lib.hid P1
    replace P2 := Lib.hid P2
    clear b7 b9 b79 rh7 rf7 rM6 H6 t6 HB6 aT HBd
    refine wp_region_relL [(16, 19), (17, 19), (17, 20)] 19 [(3, SlHd hd), (4, TreW ds), (13, PrvW none At 0 0 nt ct L q 0), (14, PrvW none At 0 0 nt ct L q 0), (15, WtW none At 0 0 nt ct L), (18, AlcW w9.heap.size)] Ext (by kernel_rfl) (by simp only [lates, late, List.push_toArray, List.cons_append, List.nil_append]; rfl) (by kernel_rfl) (fun _ _ _ _ _ h => h) (by kernel_rfl) (by kernel_rfl) (by kernel_rfl) (by kernel_rfl) Ext.refl Ext.trans (by intro p hp v w w' hR; simp only [List.mem_cons, List.not_mem_nil, or_false] at hp; rcases hp with rfl | rfl | rfl | rfl | rfl | rfl; exact SlHd.mono hR; exact TreW.mono hR; exact PrvW.mono hR; exact PrvW.mono hR; exact WtW.mono hR; exact AlcW.mono hR) ?_
    refine ZM ?_
    refine ZP (c := .agg (wtc none At none 0 0 nt ct 0 0).toArray) (fun w hw => exec_build (cs := wtc none At none 0 0 nt ct 0 0) (ops := [(1, .tmp 86)]) rfl (wT_built At nt ct)) ?_
    refine ZP (c := .agg (hdc hd).toArray) (fun w hw => exec_loadAv (hB.below hw.drew) _ _ rfl rfl _ 68 h68.out Tryd.underlying32 rfl (by kernel_rfl)) ?_
    refine relWord _ rfl (fun w hw => fill_none rfl (relOp_yes rfl ?_)) ?_
    ·rw [exec_buildV Tryd.underlying27 infoHd1 zeroHd1 (by decide) (by decide) w (hdc hd) h68.out (.agg (hdc hd).toArray) rfl (.tmp 88) rfl rfl]
     exact ⟨(Below.refl _ _).alloc (Nat.le_refl _) _, w.heap.size, rfl, Av.rd (t := 32) (heap_alloc_new _ _)⟩
    refine relWord _ rfl (fun w hw => fill_take rfl rfl fun v hv => fill_none rfl (relOp_yes rfl ?_)) ?_
    ·obtain ⟨g, rfl, r⟩ := hv
     refine relRes_enterW 11 #[.slice (some ⟨g, 0, none⟩) 1 1] (by go_simp) ((HPl.out g w (t9.below hw.drew) r).mono ?_)
     rintro e w' ⟨v, rfl, q, b'⟩
     exact ⟨_, rfl, b', q⟩
    refine ZP (c := .agg (hdc hd).toArray) (fun w hw => exec_loadAv (hB.below hw.drew) _ _ rfl rfl _ 68 h68.out Tryd.underlying32 rfl (by kernel_rfl)) ?_
    refine ZP (c := .pointer (some ⟨GT, 0, none⟩)) (fun w _ => by go_simp; first | done | rfl) ?_
    refine ZP (c := .int .u32 (i : Int)) (fun w hw => by have := P0.out _ hw.drew; go_simp; first | done | rfl) ?_
    refine ZP (c := .pointer (some ⟨GT, 1, none⟩)) (fun w _ => by go_simp; first | done | rfl) ?_
    refine ZP (c := .slice Ah K ch) (fun w hw => by have := P1.out _ hw.drew; go_simp; first | done | rfl) ?_
    refine ZP (c := .pointer (some ⟨GT, 2, none⟩)) (fun w _ => by go_simp; first | done | rfl) ?_
    refine ZP (c := .slice Af J cf) (fun w hw => by have := P2.out _ hw.drew; go_simp; first | done | rfl) ?_
    refine ZP (c := .agg (blc hd i Ah K ch Af J cf).toArray) (fun w hw => exec_build (cs := blc hd i Ah K ch Af J cf) (ops := [(0, .tmp 91), (1, .tmp 93), (2, .tmp 95), (3, .tmp 97)]) rfl hbl.out) ?_
    refine relWord _ rfl (fun w hw => fill_skip rfl (fill_take rfl rfl fun v hv => fill_none rfl (relOp_yes rfl ?_))) ?_
    ·refine relRes_enterW 12 #[.agg (wtc none At none 0 0 nt ct 0 0).toArray, v, .agg (blc hd i Ah K ch Af J cf).toArray] (by go_simp) ((HP.out v w (t9.below hw.drew) hv (T9.below hw.drew) (rh9.below hw.drew) (rf9.below hw.drew)).mono ?_)
     rintro e w' ⟨A2, n2, c2, rfl, hl2, r2, b2⟩
     exact ⟨_, rfl, b2, A2, n2, c2, rfl, hl2, r2⟩
    refine relWord _ rfl (fun w hw => fill_skip rfl (fill_skip rfl (fill_take rfl rfl fun v hv => fill_none rfl (relOp_yes rfl ?_)))) ?_
    ·exact ⟨Ext.refl _, hv⟩
    refine relWord _ rfl (fun w hw => fill_skip rfl (fill_skip rfl (fill_skip rfl (fill_take rfl rfl fun v hv => fill_none rfl (relOp_yes rfl ?_))))) ?_
    ·obtain ⟨A2, n2, c2, rfl, hl2, r2⟩ := hv
     exact ⟨Ext.refl _, A2, n2, c2, rfl, hl2, r2⟩
    refine relOn rfl rfl (c := .int .i64 (q : Int)) (fun w hw => fill_skip rfl (fill_skip rfl (fill_skip rfl (fill_take rfl rfl fun v hv => fill_none rfl (relOp_yes rfl ?_))))) (by simp only [Zs]; rfl) ?_
    ·obtain ⟨A2, n2, c2, rfl, hl2, r2⟩ := hv
     exact ⟨Ext.refl _, rfl⟩
    refine relOn rfl rfl (c := .int .i64 ((0 : Nat) : Int)) (fun w hw => fill_skip rfl (fill_skip rfl (fill_skip rfl (fill_take rfl rfl fun v hv => fill_none rfl (relOp_yes rfl ?_))))) (by simp only [Zs]; rfl) ?_
    ·obtain ⟨A2, n2, c2, rfl, hl2, r2⟩ := hv
     exact ⟨Ext.refl _, rfl⟩
    refine relWord _ rfl (fun w hw => fill_none rfl (relOp_yes rfl ?_)) ?_
    ·exact ⟨(Below.refl _ _).alloc (Nat.le_refl _) _, w.heap.size, rfl, hw.drew.size, heap_alloc_new _ _⟩
    refine relEnd fun w10 hw10 => fill_take rfl rfl fun v1 hv1 => fill_take rfl rfl fun v2 hv2 => fill_take rfl rfl fun v3 hv3 => fill_take rfl rfl fun v4 hv4 => fill_take rfl rfl fun v5 hv5 => fill_take rfl rfl fun v6 hv6 => fill_end ?_
    obtain ⟨A4, n4, c4, rfl, hl4, r4⟩ := hv5
    obtain ⟨G9, rfl, hG9, z9'⟩ := hv6
    obtain rfl : q = n4 := by rw [← hl4, hLl.out]
    clear hv1 hv2 hv3 hv4
    simp only [List.set_cons_succ, List.set_cons_zero, List.drop_succ_cons, List.drop_zero]
    have b10 : Below w9.heap.size w9 w10 := hw10.drew
    have wone := wtc_one none At A4 0 0 nt ct q c4
    have l4' : (wtc none At A4 0 0 nt ct q c4).length = 3 := rfl
    go_upto_region 23 with ((with_reducible refine wpList_storeFA 42 b10 z9' hG9 (wtc none At A4 0 0 nt ct q c4) ?_ ?_ 3 l4' ?_ ?_ ?_ ?_); rfl; rfl; kernel_rfl; rfl; exact wone; intro w11 a11 b11 k11 z11)
    have f11 : Fr (fun k => k = G9) w10 w11 := ⟨b11.os.trans b10.os.symm, b11.tape.trans b10.tape.symm, b11.output.trans b10.output.symm, by rw [z11]; exact Nat.le_refl _, fun k _ hk => k11 k hk⟩
    have s11 := r4.off z9' f11
    have HB11 := HB9.trans (b11.mono HB9.size)
    have rM11 := rM9.below b11
    have H11 := rH.below HB11
    clear b10 f11 k11 z11 r4 z9' HP HPl hbl hB rh9 rf9 t9 T9 HB9 P0 P1 P2 b11 hw10 rM9
    obtain ⟨bH, oH, rfl⟩ := H11.adr (by rw [hn.out]; exact h0)
    obtain ⟨bM, oM, rfl⟩ := rM11.someA (by intro e; have := congrArg List.length e; rw [List.length_map, hnm.out] at this; simp at this; omega)
    go_wp2
    go_loopw [21] (fun iv wr => ∃ j : Nat, j ≤ q ∧ iv = .int .i64 (j : Int) ∧ Below w11.heap.size w11 wr) (fun iv _ => q - (intOf iv).toNat)
    case atStart => exact ⟨0, by omega, rfl, Below.refl _ _⟩
    case round =>
     obtain ⟨j, hj, rfl, br⟩ := hrel
     have d2 := (a11.below br).cell 2 (.slice A4 q c4) rfl
     by_cases hlt : j < q
     ·have u3 : decide ((j : Int) < (q : Int)) = true := by simp; omega
      obtain ⟨x, hx⟩ : ∃ x, L[j]? = some x := ⟨_, List.getElem?_eq_getElem (by rw [hLl.out]; exact hlt)⟩
      obtain ⟨b4, o4, rfl⟩ := s11.adr (by rw [hLl.out]; omega)
      obtain ⟨rx, xok⟩ := (s11.below br).nth j x hx
      obtain ⟨p, hp1, hp2, hp3, hp4⟩ : ∃ p : Nat, p < i ∧ ms.getD p false = true ∧ hs[p]? = some x.id ∧ x.pos = (p : Int) := by
       rw [hL.out, List.getElem?_map] at hx
       obtain ⟨m, hm, rfl⟩ := Option.map_eq_some_iff.1 hx
       obtain ⟨q1, q2, q3⟩ := mts_mem (List.mem_of_getElem? hm)
       refine ⟨m.1, q1, q2, ?_, rfl⟩
       show hs[m.1]? = some m.2
       rw [q3, List.getD_eq_getElem?_getD, List.getElem?_eq_getElem (by rw [hn.out]; exact q1)]
       rfl
      have x65 := Lib.hid (snc_length xok)
      have xone := Lib.hid (List.all_eq_true.2 (snc_one x))
      have xk1 := Lib.hid (show (x.id.map bv).length = 32 by rw [List.length_map, xok.1])
      have m0 : 0 ≤ (j : Int) := by omega
      have m1 : (j : Int) < (q : Int) := by omega
      have p0 : 0 ≤ (p : Int) := by omega
      have p1 : (p : Int) < (i : Int) := by omega
      have f1 : decide ((p : Int) < 0) = false := by simp
      have f2 : decide ((i : Int) ≤ (p : Int)) = false := by simp; omega
      have f2' : decide (i ≤ p) = false := by simp; omega
      have EN := fun p q w => neqHg x.id x.id xok.1 xok.1 p q w
      simp only [beq_self_eq_true, Bool.not_true] at EN
      replace EN := Lib.hid EN
      replace hx := Lib.hid hx
      replace hp2 := Lib.hid hp2
      replace hp3 := Lib.hid hp3
      replace hp4 := Lib.hid hp4
      go_upto_region 27 with (first
       | ((with_reducible refine wpList_loadMF 58 (snc x) rx ?_ _ Tryd.underlying58 ?_ ?_ ?_); rfl; rfl; (rw [x65.out]; kernel_rfl))
       | ((with_reducible refine wpList_storeF 58 ((Below.refl wr.heap.size wr).alloc (Nat.le_refl _) _) (heap_alloc_new _ _) (Nat.le_refl _) (snc x) ?_ ?_ 65 ?_ ?_ ?_ ?_ ?_); rfl; rfl; exact x65.out; kernel_rfl; (rw [List.size_toArray]; exact hzl.out); exact xone.out; intro w12 a12 b12 k12 z12; clear k12; replace z12 := Lib.hid z12))
      obtain ⟨Gx, hGx⟩ : ∃ G, G = wr.heap.size := ⟨_, rfl⟩
      rw [← hGx] at a12 ⊢
      replace hGx := Lib.hid hGx
      have B12 := br.trans (b12.mono br.size)
      have CX : ∀ w', Below w12.heap.size w12 w' → w'.cell? ⟨Gx, 64, none⟩ = some (.int .i64 (p : Int)) := fun w' b => by rw [← hp4.out]; exact (a12.below b).cell 64 _ (snc_pos xok)
      have CI : ∀ w', Below w12.heap.size w12 w' → w'.rangeAt Gx 0 (x.id.map bv) := fun w' b => rg_sn_id (a12.below b).range0
      have CP : ∀ w', Below w12.heap.size w12 w' → w'.rangeAt bH (oH + p * 32) (x.id.map bv) := fun w' b => ((H11.below B12).below b).nth p x.id hp3.out
      have CM : ∀ w', Below w12.heap.size w12 w' → w'.cell? ⟨bM, oM + p, none⟩ = some (.bool true) := fun w' b => by have := ((rM11.below B12).below b).bool_at p (by rw [hnm.out]; exact hp1); rw [hp2.out] at this; exact this
      clear d2 rx b12
      replace CX := Lib.hid CX
      replace CI := Lib.hid CI
      replace CP := Lib.hid CP
      replace CM := Lib.hid CM
      refine wp_region_rel [] Ext (by kernel_rfl) (by kernel_rfl) (by kernel_rfl) Ext.refl Ext.trans (by intro p hp; cases hp) ?_
      refine ZP (c := .pointer (some ⟨Gx, 64, none⟩)) (fun w _ => by go_simp; first | done | rfl) ?_
      refine ZP (c := .int .i64 (p : Int)) (fun w hw => by have := CX.out _ hw.drew; go_simp; first | done | rfl) ?_
      refine ZP (c := .bool false) (fun w _ => by have := f1; go_simp; first | done | rfl) ?_
      refine ZM ?_
      refine ZP (c := .pointer (some ⟨Gx, 64, none⟩)) (fun w _ => by go_simp; first | done | rfl) ?_
      refine ZP (c := .int .i64 (p : Int)) (fun w hw => by have := CX.out _ hw.drew; go_simp; first | done | rfl) ?_
      refine ZM ?_
      refine ZP (c := .int .i64 (i : Int)) (fun w _ => by go_simp; first | done | rfl) ?_
      refine ZP (c := .bool false) (fun w _ => by have := f2; have := f2'; go_simp; first | done | rfl) ?_
      refine ZK ?_
      refine ZM ?_
      refine ZM ?_
      refine ZP (c := .pointer (some ⟨Gx, 64, none⟩)) (fun w _ => by go_simp; first | done | rfl) ?_
      refine ZP (c := .int .i64 (p : Int)) (fun w hw => by have := CX.out _ hw.drew; go_simp; first | done | rfl) ?_
      refine ZP (c := .pointer (some ⟨bH, oH + p * 32, none⟩)) (fun w _ => by have := p0; have := p1; go_simp; first | done | rfl) ?_
      refine ZP (c := .agg (x.id.map bv).toArray) (fun w hw => exec_load_mid _ _ rfl bH (oH + p * 32) rfl (x.id.map bv) _ (CP.out _ hw.drew) Tryd.underlying30 rfl (by rw [xk1.out]; kernel_rfl)) ?_
      refine ZP (c := .pointer (some ⟨Gx, 0, none⟩)) (fun w _ => by go_simp; first | done | rfl) ?_
      refine ZP (c := .agg (x.id.map bv).toArray) (fun w hw => exec_load_mid _ _ rfl Gx (0) rfl (x.id.map bv) _ (CI.out _ hw.drew) Tryd.underlying30 rfl (by rw [xk1.out]; kernel_rfl)) ?_
      refine relBin Ext.refl rfl rfl rfl rfl _ _ _ _ _ rfl (by conv => lhs; whnf) (by conv => lhs; whnf) (c := .bool false) (fun w => EN.out _ _ w) (by simp only [Zs]; rfl) ?_
      refine ZK ?_
      refine ZM ?_
      refine ZM ?_
      refine ZP (c := .pointer (some ⟨Gx, 64, none⟩)) (fun w _ => by go_simp; first | done | rfl) ?_
      refine ZP (c := .int .i64 (p : Int)) (fun w hw => by have := CX.out _ hw.drew; go_simp; first | done | rfl) ?_
      refine ZP (c := .pointer (some ⟨bM, oM + p, none⟩)) (fun w _ => by have := p0; have := p1; go_simp; first | done | rfl) ?_
      refine ZP (c := .bool true) (fun w hw => by have := CM.out _ hw.drew; go_simp; first | done | rfl) ?_
      refine ZP (c := .bool false) (fun w _ => by go_simp; first | done | rfl) ?_
      refine ZK ?_
      refine relEnd fun w13 hw13 => fill_end ?_
      have B13 := B12.trans (hw13.drew.mono B12.size)
      go_wp2
      refine ⟨⟨j + 1, by omega, by go_num, B13⟩, ?_⟩
      simp only [intOf]
      omega
     ·obtain rfl : j = q := by omega
      have u3 : decide ((j : Int) < (j : Int)) = false := by simp
      go_wp2
      go_ret
      exact ⟨rfl, HB11.trans (br.mono HB11.size)⟩
theorem law_WatchBlock (T : List (List UInt8)) (At : Option Addr) (nt ct : Nat) (hT : T.length = nt) (hs : List (List UInt8)) (B : Option Addr) (n c : Nat) (hn : hs.length = n) (nc : Nat) (hnc : nc < 4294967296)
  (w : World) (ht : Tabs w) (rT : RdHs w At T) (rH : RdHs w B hs) :
  Calls Tryd.prog 8 #[.slice At nt ct, .slice B n c, .int .u32 (nc : Int)] w fun e w' => e = .returned (.bool true) ∧ Below w.heap.size w w' := by
 by_cases hfar : nt ≤ 40 ∧ n ≤ 24 ∧ 0 < n
 ·exact wblk_main T At nt ct hT hs B n c hn nc hnc w ht rT rH hfar.1 hfar.2.1 hfar.2.2
 ·exact wblk_far T At nt ct hT hs B n c hn nc hnc w ht rT rH hfar
end Go.Proofs.YtobjgebojhjhnaaDoor
