/- Qu; Ra: put together for the claim. -/
import Derived.Test.YtdkknincamkhpaaDoorQt
import Derived.Test.YtdkknincamkhpaaDoorShB
/- proof.climber.node: all nodes. -/
namespace Go.Proofs.YtdkknincamkhpaaDoor
open Go.RowKit
theorem pPth_lt (n : Nat) (fl : List UInt8) (hs : List (List UInt8)) (pos : Nat) : ∀ (h i d k : Nat), (pPth n fl hs pos h i d k).length < 2 ^ h
  | 0, _, _, _ => by rw [pPth]; exact Nat.one_pos
  | h + 1, i, d, k => by
    have hp : 0 < 2 ^ h := Nat.pow_pos (by omega)
    have e2 : 2 ^ (h + 1) = 2 ^ h + 2 ^ h := by rw [Nat.pow_succ]; omega
    have hsd : ∀ a b, (pSide pos h i a b).length ≤ 1 := fun a b => by
      unfold pSide
      split
      · exact Nat.le_refl _
      · split
        · exact Nat.le_refl _
        · exact Nat.zero_le _
    rw [pPth, e2]
    split
    · split
      · rename_i a _
        have h1 := pPth_lt n fl hs pos h (2 * i) (d + 1) k
        split
        · split
          · rename_i b _
            have h2 := pPth_lt n fl hs pos h (2 * i + 1) a.d a.k
            have h3 := hsd a.x b.x
            rw [List.length_append, List.length_append]
            omega
          · rw [List.length_nil]; omega
        · have h3 := hsd a.x a.x
          rw [List.length_append]
          omega
      · rw [List.length_nil]; omega
    · rw [List.length_nil]; omega
theorem pSide_cases (pos h i : Nat) (a b : List UInt8) : (pos / 2 ^ h = 2 * i ∧ pSide pos h i a b = [b]) ∨ (pos / 2 ^ h = 2 * i + 1 ∧ pSide pos h i a b = [a]) ∨ (pos / 2 ^ h ≠ 2 * i ∧ pos / 2 ^ h ≠ 2 * i + 1 ∧ pSide pos h i a b = []) := by
  unfold pSide
  by_cases h1 : pos / 2 ^ h = 2 * i
  · exact .inl ⟨h1, by rw [if_pos h1]⟩
  · by_cases h2 : pos / 2 ^ h = 2 * i + 1
    · exact .inr (.inl ⟨h2, by rw [if_neg h1, if_pos h2]⟩)
    · exact .inr (.inr ⟨h1, h2, by rw [if_neg h1, if_neg h2]⟩)
theorem node_leaf {w0 w w' : World} {C tot : Nat} {Ah : Option Addr} {nh ch : Nat} {Af : Option Addr} {nf cf pos d k : Nat} {v : Value} {p : List (List UInt8)} {x : List UInt8} {e : Ending} (hC0 : w0.heap.size ≤ C) (hN : NInv w0 C tot Ah nh ch Af nf cf pos d k v p w) (h : e = .returned (.agg (hcs x)) ∧ Av w' C 71 (clc tot Ah nh ch Af nf cf (pos : Int) (d + 1) (k + 1) v) ∧ Fr (fun j => j = C) w w') : NodePost w0 C tot Ah nh ch Af nf cf pos v p [] w (d + 1) (k + 1) x e w' := by
  obtain ⟨h1, h2, h3⟩ := h
  refine ⟨h1, v, ⟨hN.below.trans (h3.below (fun j e => by omega) hN.below.size), h2, ?_⟩, NKeep.ofFr h3⟩
  rw [List.append_nil]
  exact own_fr hN.own h3 (fun j e q => hN.ownC (by rw [e, q]))
theorem PNode (fl : List UInt8) (hs : List (List UInt8)) (h32 : All32 hs) (tot : Nat) (Ah : Option Addr) (nh ch : Nat) (Af : Option Addr) (nf cf : Nat) (pos : Nat) (C : Nat) (hnh : hs.length = nh) (hnf : fl.length = nf) (hnf2 : nf ≤ 10000) (hnh2 : nh ≤ 10000) (w0 : World) (hC0 : w0.heap.size ≤ C) (hrh : Rd w0 Ah (hcl hs)) (hrf : Rd w0 Af (fl.map bv)) (hT : Tabs w0) (htot : tot ≤ 4096) (hpos : pos ≤ 100000) : ∀ (h i d k : Nat) (r : PRes) (v : Value) (p : List (List UInt8)) (w : World), h ≤ 13 → (i + 1) * 2 ^ h ≤ 8192 → p.length + 2 ^ h ≤ 100000 → pRd tot fl hs h i d k = some r → NInv w0 C tot Ah nh ch Af nf cf pos d k v p w →
    Calls Tryd.prog 32 #[.pointer (some ⟨C, 0, none⟩), .int .i64 (h : Int), .int .i64 (i : Int)] w (NodePost w0 C tot Ah nh ch Af nf cf pos v p (pPth tot fl hs pos h i d k) w r.d r.k r.x) := by
  have NO := PNode_no fl hs h32 tot Ah nh ch Af nf cf pos C hnh hnf hnf2 hnh2 w0 hC0 hrh hrf
  have LOW := PNode_low fl hs h32 tot Ah nh ch Af nf cf pos C hnh hnf hnf2 hnh2 w0 hC0 hrh hrf
  have TWO := PNode_two fl hs h32 tot Ah nh ch Af nf cf pos C hnh hnf hnf2 hnh2 w0 hC0 hrh hrf hT
  have ONE := PNode_one fl hs h32 tot Ah nh ch Af nf cf pos C hnh hnf hnf2 hnh2 w0 hC0 hrh hrf hT
  intro h
  induction h with
  | zero =>
    intro i d k r v p w hh hi hp hr hN
    rw [pRd] at hr
    cases e : pDig fl d with
    | none => rw [e] at hr; cases hr
    | some b =>
      rw [e, Option.bind_some] at hr
      cases e1 : hs[k]? with
      | none => rw [e1] at hr; cases hr
      | some x =>
        rw [e1] at hr
        obtain rfl := Option.some.inj hr
        rw [pPth]
        cases b with
        | false => exact (NO d k x e e1 v _ _ w hN.below hN.av).mono fun _ _ h => node_leaf hC0 hN h
        | true => exact (LOW d k x e e1 v _ w hN.below hN.av).mono fun _ _ h => node_leaf hC0 hN h
  | succ h ih =>
    intro i d k r v p w hh hi hp hr hN
    have e2 : 2 ^ (h + 1) = 2 ^ h + 2 ^ h := by rw [Nat.pow_succ]; omega
    rw [e2] at hp
    have hp0 : 0 < 2 ^ h := Nat.pow_pos (by omega)
    have hi2 : (2 * i + 1 + 1) * 2 ^ h ≤ 8192 := by rw [Nat.pow_succ] at hi; rw [show 2 * i + 1 + 1 = 2 * (i + 1) by omega, Nat.mul_comm 2, Nat.mul_assoc, Nat.mul_comm 2]; exact hi
    have hi1 : (2 * i + 1) * 2 ^ h ≤ 8192 := Nat.le_trans (Nat.mul_le_mul_right _ (by omega)) hi2
    have hib : i ≤ 100000 := by
      have := Nat.le_trans (Nat.le_mul_of_pos_right (2 * i + 1 + 1) hp0) hi2
      omega
    rw [pRd] at hr
    cases e : pDig fl d with
    | none => rw [e] at hr; cases hr
    | some b =>
      rw [e, Option.bind_some] at hr
      cases b with
      | false =>
        cases e1 : hs[k]? with
        | none => rw [e1] at hr; cases hr
        | some x =>
          rw [e1] at hr
          obtain rfl := Option.some.inj hr
          rw [pPth, e]
          exact (NO d k x e e1 v _ _ w hN.below hN.av).mono fun _ _ h => node_leaf hC0 hN h
      | true =>
        rw [if_pos rfl] at hr
        cases ea : pRd tot fl hs h (2 * i) (d + 1) k with
        | none => rw [ea] at hr; cases hr
        | some a =>
          rw [ea, Option.bind_some] at hr
          have ha := pRd_bounds tot fl hs h32 _ _ _ _ _ ea
          have l1 := pPth_lt tot fl hs pos h (2 * i) (d + 1) k
          have HL := fun w' hN' => ih (2 * i) (d + 1) k a v p w' (by omega) hi1 (by omega) ea hN'
          rw [show ((2 * i : Nat) : Int) = 2 * (i : Int) by omega] at HL
          by_cases hw : 2 * i + 1 < pWd tot h
          · rw [if_pos hw] at hr
            cases eb : pRd tot fl hs h (2 * i + 1) a.d a.k with
            | none => rw [eb] at hr; cases hr
            | some b =>
              rw [eb, Option.bind_some] at hr
              split at hr
              · cases hr
              · obtain rfl := Option.some.inj hr
                have hb := pRd_bounds tot fl hs h32 _ _ _ _ _ eb
                have l2 := pPth_lt tot fl hs pos h (2 * i + 1) a.d a.k
                have HR := fun v' w' hN' => ih (2 * i + 1) a.d a.k b v' (p ++ pPth tot fl hs pos h (2 * i) (d + 1) k) w' (by omega) hi2 (by rw [List.length_append]; omega) eb hN'
                rw [show ((2 * i + 1 : Nat) : Int) = 2 * (i : Int) + 1 by omega] at HR
                have := TWO d k e h i (by omega) hib htot hpos hw a.x b.x a.d a.k b.d b.k ha.2.2.2.2.2.1 hb.2.2.2.2.2.1 _ _ _ (pSide_cases pos h i a.x b.x) v p (by omega) HL HR w hN
                rw [pPth, e]
                simp only [ea, if_pos hw, eb]
                exact this
          · rw [if_neg hw] at hr
            obtain rfl := Option.some.inj hr
            have := ONE d k e h i (by omega) hib htot hpos hw a.x a.d a.k ha.2.2.2.2.2.1 _ _ (pSide_cases pos h i a.x a.x) v p (by omega) HL w hN
            rw [List.append_nil] at this
            rw [pPth, e]
            simp only [ea, if_neg hw]
            exact this
end Go.Proofs.YtdkknincamkhpaaDoor
/- florinref02: turn, constants, words. -/
namespace Go.Proofs.YtdkknincamkhpaaDoor
open Go.RowKit
attribute [local go_sem high] bits_or_wn shl_wn shr_wn
theorem turnR (x : W32) (k : Nat) (m : Int) (hm : m = k) (hk : 0 < k) (hk2 : k < 32) (w : World) :
    Calls Tryd.prog 81 #[.int .u32 (wn x), .int .u64 m] w fun e w' => e = .returned (.int .u32 (wn (rotr x k))) ∧ w' = w := by
  obtain rfl := hm
  have e0 : (0 : Int) ≤ k := by omega
  have e1 : IntKind.u64.wrap (32 - (k : Int)) = ((32 - k : Nat) : Int) := by rw [IntKind.wrap_u64]; omega
  have e2 : min ((k : Int)).toNat IntKind.u32.bits = k := by simp only [IntKind.bits]; omega
  have e3 : min (((32 - k : Nat) : Int)).toNat IntKind.u32.bits = 32 - k := by simp only [IntKind.bits]; omega
  have e4 : (0 : Int) ≤ ((32 - k : Nat) : Int) := by omega
  have e5 : rotr x k = x >>> k ||| x <<< (32 - k) := by rw [rotr, BitVec.or_comm]
  rw [e5]
  go_enter Tryd.func81, Tryd.ntmps81
  go_wp2
  go_ret
  exact ⟨rfl, rfl⟩
end Go.Proofs.YtdkknincamkhpaaDoor
namespace Go.Proofs.YtdkknincamkhpaaDoor
open Go.RowKit
attribute [local go_sem high] bits_xor_wn bits_or_wn bits_and_wn wrap_add_wn
attribute [local go_sem high] shr3 shr10
/-- the words of the constants -/
def kWords : List W32 := (List.range 64).map kAt
theorem kWords_len : kWords.length = 64 := rfl
theorem kWords_at (k : Nat) (hk : k < 64) : kWords.getD k 0 = kAt k := by
  rw [kWords, List.getD_eq_getElem?_getD, List.getElem?_map, List.getElem?_range hk]; rfl
theorem kTab_lt : ∀ i, i < 64 → kTab.getD i 0 < 4294967296 := by decide +kernel
set_option maxRecDepth 10000 in
set_option maxHeartbeats 2000000 in
theorem constantsR (w : World) : Calls Tryd.prog 80 #[] w fun e w' => e = .returned (.agg (wcs kWords)) ∧ Below w.heap.size w w' := by
  have hk : ∀ i, i < 64 → wn (kAt i) = ((kTab.getD i 0 : Nat) : Int) := fun i hi => by
    rw [kAt, wn_lit]
    exact kTab_lt i hi
  have hz : (kTab.map fun x : Nat => Value.int .u32 (x : Int)).toArray = wcs kWords := by
    rw [wcs, kWords, List.map_map]
    congr 1
    apply List.ext_getElem? 
    intro i
    by_cases hi : i < 64
    · rw [List.getElem?_map, List.getElem?_map, List.getElem?_range hi]
      have := hk i hi
      rw [List.getD_eq_getElem?_getD] at this
      have hl : i < kTab.length := hi
      rw [List.getElem?_eq_getElem hl] at this ⊢
      simp only [Option.map_some, Function.comp, Option.getD_some] at this ⊢
      rw [wc, this]
    · rw [List.getElem?_eq_none (by rw [List.length_map]; exact Nat.le_of_not_lt hi), List.getElem?_eq_none (by rw [List.length_map, List.length_range]; exact Nat.le_of_not_lt hi)]
  have hkl := kWords_len
  obtain ⟨ks, hks⟩ : ∃ l, l = kWords := ⟨_, rfl⟩
  rw [← hks] at hz hkl ⊢
  clear hks hk
  replace hz : #[Value.int .u32 1116352408, Value.int .u32 1899447441, Value.int .u32 3049323471, Value.int .u32 3921009573, Value.int .u32 961987163, Value.int .u32 1508970993, Value.int .u32 2453635748, Value.int .u32 2870763221, Value.int .u32 3624381080, Value.int .u32 310598401, Value.int .u32 607225278, Value.int .u32 1426881987, Value.int .u32 1925078388, Value.int .u32 2162078206, Value.int .u32 2614888103, Value.int .u32 3248222580, Value.int .u32 3835390401, Value.int .u32 4022224774, Value.int .u32 264347078, Value.int .u32 604807628, Value.int .u32 770255983, Value.int .u32 1249150122, Value.int .u32 1555081692, Value.int .u32 1996064986, Value.int .u32 2554220882, Value.int .u32 2821834349, Value.int .u32 2952996808, Value.int .u32 3210313671, Value.int .u32 3336571891, Value.int .u32 3584528711, Value.int .u32 113926993, Value.int .u32 338241895, Value.int .u32 666307205, Value.int .u32 773529912, Value.int .u32 1294757372, Value.int .u32 1396182291, Value.int .u32 1695183700, Value.int .u32 1986661051, Value.int .u32 2177026350, Value.int .u32 2456956037, Value.int .u32 2730485921, Value.int .u32 2820302411, Value.int .u32 3259730800, Value.int .u32 3345764771, Value.int .u32 3516065817, Value.int .u32 3600352804, Value.int .u32 4094571909, Value.int .u32 275423344, Value.int .u32 430227734, Value.int .u32 506948616, Value.int .u32 659060556, Value.int .u32 883997877, Value.int .u32 958139571, Value.int .u32 1322822218, Value.int .u32 1537002063, Value.int .u32 1747873779, Value.int .u32 1955562222, Value.int .u32 2024104815, Value.int .u32 2227730452, Value.int .u32 2361852424, Value.int .u32 2428436474, Value.int .u32 2756734187, Value.int .u32 3204031479, Value.int .u32 3329325298] = wcs ks := (show #[Value.int .u32 1116352408, Value.int .u32 1899447441, Value.int .u32 3049323471, Value.int .u32 3921009573, Value.int .u32 961987163, Value.int .u32 1508970993, Value.int .u32 2453635748, Value.int .u32 2870763221, Value.int .u32 3624381080, Value.int .u32 310598401, Value.int .u32 607225278, Value.int .u32 1426881987, Value.int .u32 1925078388, Value.int .u32 2162078206, Value.int .u32 2614888103, Value.int .u32 3248222580, Value.int .u32 3835390401, Value.int .u32 4022224774, Value.int .u32 264347078, Value.int .u32 604807628, Value.int .u32 770255983, Value.int .u32 1249150122, Value.int .u32 1555081692, Value.int .u32 1996064986, Value.int .u32 2554220882, Value.int .u32 2821834349, Value.int .u32 2952996808, Value.int .u32 3210313671, Value.int .u32 3336571891, Value.int .u32 3584528711, Value.int .u32 113926993, Value.int .u32 338241895, Value.int .u32 666307205, Value.int .u32 773529912, Value.int .u32 1294757372, Value.int .u32 1396182291, Value.int .u32 1695183700, Value.int .u32 1986661051, Value.int .u32 2177026350, Value.int .u32 2456956037, Value.int .u32 2730485921, Value.int .u32 2820302411, Value.int .u32 3259730800, Value.int .u32 3345764771, Value.int .u32 3516065817, Value.int .u32 3600352804, Value.int .u32 4094571909, Value.int .u32 275423344, Value.int .u32 430227734, Value.int .u32 506948616, Value.int .u32 659060556, Value.int .u32 883997877, Value.int .u32 958139571, Value.int .u32 1322822218, Value.int .u32 1537002063, Value.int .u32 1747873779, Value.int .u32 1955562222, Value.int .u32 2024104815, Value.int .u32 2227730452, Value.int .u32 2361852424, Value.int .u32 2428436474, Value.int .u32 2756734187, Value.int .u32 3204031479, Value.int .u32 3329325298] = (kTab.map fun x : Nat => Value.int .u32 (x : Int)).toArray by kernel_rfl).trans hz
  replace hkl := Lib.hid hkl
  go_enter Tryd.func80, Tryd.ntmps80
  go_wp2_with (first
    | (refine wpList_storeAr ((Below.refl w.heap.size w).alloc (Nat.le_refl _) _) (heap_alloc_new _ _) (Nat.le_refl _) rfl _ _ _ rfl rfl ks (by first | exact congrArg Value.agg hz | rfl) 64 hkl.out (by kernel_rfl) rfl ?_
       intro w2 a2 b2 k2 z2))
  exact bodyPost_ret (v := .agg (wcs ks)) (results_cell_row rfl _ _ w.heap.size _ _ (0, 0) _ rfl a2 Tryd.underlying131 rfl (by rw [wcs_size, hkl.out]; kernel_rfl)) rfl ⟨rfl, b2⟩
end Go.Proofs.YtdkknincamkhpaaDoor
namespace Go.Proofs.YtdkknincamkhpaaDoor
open Go.RowKit
attribute [local go_sem high] shr3 shr10 bits_xor_wn bits_or_wn bits_and_wn wrap_add_wn
set_option maxRecDepth 10000 in
set_option maxHeartbeats 1000000 in
theorem wordsR (bs : List UInt8) (A : Option Addr) (c : Nat) (hl : bs.length = 64) (w : World) (hr : Rd w A (bs.map bv)) :
    Calls Tryd.prog 79 #[.slice A 64 c] w fun e w' => e = .returned (.agg (wcs (shW bs))) ∧ Below w.heap.size w w' := by
  obtain ⟨blk, off, rfl, hbc⟩ : ∃ b off, A = some ⟨b, off, none⟩ ∧ ∀ j u, (bs.map bv)[j]? = some u → w.cell? ⟨b, off + j, none⟩ = some u := by
    rcases hr with h | h
    · simp at h; subst h; simp at hl
    · exact h
  have Hbc := Lib.hid hbc
  clear hbc hr
  go_enter Tryd.func79, Tryd.ntmps79
  go_wp2
  go_loopw [4] (fun i wr => ∃ k : Nat, k ≤ 16 ∧ i = .int .i64 k ∧ Below w.heap.size w wr ∧ Ar wr (w.heap.size + 1) 131 (fill1 bs k) ∧ Ar wr w.heap.size 131 (List.replicate 64 0)) (fun i _ => 16 - (intOf i).toNat)
  case atStart =>
    refine ⟨0, by omega, rfl, ((Below.refl _ _).alloc (Nat.le_refl _) _).alloc (by simp) _, ?_, ?_⟩
    · rw [Ar, fill1, wcs_zeros]; exact heap_alloc2_new _ _ _
    · rw [Ar, wcs_zeros]; exact heap_alloc2_old _ _ _
  case round =>
    obtain ⟨k, hk, rfl, hb, ha, hr0⟩ := hrel
    by_cases hk16 : k < 16
    · have byte : ∀ i : Nat, i < 64 → wr.cell? ⟨blk, off + i, none⟩ = some (bv (bs.getD i 0)) := fun i hi => by
        have h := Hbc.out i (bv (bs.getD i 0)) (by simp [List.getElem?_eq_getElem (show i < bs.length by omega)])
        exact (hb.cell (p := ⟨blk, off + i, none⟩) (World.block_lt_of_cell? w _ h)).trans h
      have cell : ∀ i : Nat, i < 4 → ∃ (a : Int) (x : UInt8), a = 4 * (k : Int) + i ∧ x = bs.getD (4 * k + i) 0 ∧ 0 ≤ a ∧ a < 64 ∧ wr.cell? ⟨blk, off + a.toNat, none⟩ = some (bv x) := fun i hi =>
        ⟨_, _, rfl, rfl, by omega, by omega, by rw [show (4 * (k : Int) + i).toNat = 4 * k + i by omega]; exact byte _ (by omega)⟩
      obtain ⟨a0, x0, ha0, hx0, p0, q0, c0⟩ := cell 0 (by omega)
      obtain ⟨a1, x1, ha1, hx1, p1, q1, c1⟩ := cell 1 (by omega)
      obtain ⟨a2, x2, ha2, hx2, p2, q2, c2⟩ := cell 2 (by omega)
      obtain ⟨a3, x3, ha3, hx3, p3, q3, c3⟩ := cell 3 (by omega)
      have e0 : IntKind.i64.wrap (4 * (k : Int)) = a0 := by rw [IntKind.wrap_i64]; omega
      have e1 : IntKind.i64.wrap (a0 + 1) = a1 := by rw [IntKind.wrap_i64]; omega
      have e2 : IntKind.i64.wrap (a0 + 2) = a2 := by rw [IntKind.wrap_i64]; omega
      have e3 : IntKind.i64.wrap (a0 + 3) = a3 := by rw [IntKind.wrap_i64]; omega
      have hk0 : 0 ≤ (k : Int) := by omega
      have hk1 : (k : Int) < 64 := by omega
      have hlw : (fill1 bs k).getD k 0 = (fill1 bs k).getD k 0 := rfl
      have hce := ha.cell k (by rw [fill1_length]; omega)
      have Hx := Lib.hid (And.intro hx0 (And.intro hx1 (And.intro hx2 hx3)))
      clear hx0 hx1 hx2 hx3 ha0 ha1 ha2 ha3 byte cell hlw
      go_wp2
      go_still_tail 35, (by kernel_rfl)
      change wpList _ _ _ _ _ wr.drew
      have hfz : wr.frozen? ⟨w.heap.size + 1, k, none⟩ = false := frozen_of_row _ _ _ _ _ ha
      go_wp2
      obtain ⟨rfl, rfl, rfl, rfl⟩ := Hx.out
      rw [be_word]
      refine ⟨⟨k + 1, by omega, by go_num, (hb.setCell (by simp) _).drew, (ha.set k _).drew, (hr0.other _ _ (by simp)).drew⟩, ?_⟩
      simp [intOf]; omega
    · obtain rfl : k = 16 := by omega
      clear hk16 hk Hbc
      go_wp2
      obtain ⟨w1, rfl⟩ : ∃ wo : World, wo = wr := ⟨_, rfl⟩
      have hl1 : (fill1 bs 16).length = 64 := fill1_length _ _
      obtain ⟨l1, hL1⟩ : ∃ l, l = fill1 bs 16 := ⟨_, rfl⟩
      rw [← hL1] at ha hl1
      replace hL1 := Lib.hid hL1
      go_loopw [5] (fun i wr => ∃ k : Nat, k ≤ 48 ∧ i = .int .i64 (16 + (k : Int)) ∧ Below w.heap.size w wr ∧ Ar wr (w.heap.size + 1) 131 (fill2 l1 k) ∧ Ar wr w.heap.size 131 (List.replicate 64 0)) (fun i _ => 64 - (intOf i).toNat)
      case atStart => exact ⟨0, by omega, rfl, hb, ha, hr0⟩
      case round =>
        obtain ⟨k, hk, rfl, hb, ha, hr0⟩ := hrel
        by_cases hk48 : k < 48
        · have hl2 : (fill2 l1 k).length = 64 := by rw [fill2_length]; exact hl1
          have cell : ∀ j : Nat, j ≤ 16 → 0 < j → ∃ (a : Int) (x : W32), a = 16 + (k : Int) - j ∧ x = (fill2 l1 k).getD (16 + k - j) 0 ∧ 0 ≤ a ∧ a < 64 ∧ wr.cell? ⟨w.heap.size + 1, a.toNat, none⟩ = some (wc x) := fun j hj hj0 =>
            ⟨_, _, rfl, rfl, by omega, by omega, by rw [show (16 + (k : Int) - j).toNat = 16 + k - j by omega]; exact ha.cell _ (by omega)⟩
          obtain ⟨a0, x0, ha0, hx0, p0, q0, c0⟩ := cell 2 (by omega) (by omega)
          obtain ⟨a1, x1, ha1, hx1, p1, q1, c1⟩ := cell 7 (by omega) (by omega)
          obtain ⟨a2, x2, ha2, hx2, p2, q2, c2⟩ := cell 15 (by omega) (by omega)
          obtain ⟨a3, x3, ha3, hx3, p3, q3, c3⟩ := cell 16 (by omega) (by omega)
          have e0 : IntKind.i64.wrap (16 + (k : Int) - 2) = a0 := by rw [IntKind.wrap_i64]; omega
          have e1 : IntKind.i64.wrap (16 + (k : Int) - 7) = a1 := by rw [IntKind.wrap_i64]; omega
          have e2 : IntKind.i64.wrap (16 + (k : Int) - 15) = a2 := by rw [IntKind.wrap_i64]; omega
          have e3 : IntKind.i64.wrap (16 + (k : Int) - 16) = a3 := by rw [IntKind.wrap_i64]; omega
          have hk0 : 0 ≤ 16 + (k : Int) := by omega
          have hk1 : 16 + (k : Int) < 64 := by omega
          have hce := ha.cell (16 + (k : Int)).toNat (by omega)
          have hfz : wr.frozen? ⟨w.heap.size + 1, (16 + (k : Int)).toNat, none⟩ = false := frozen_of_row _ _ _ _ _ ha
          have Hx := Lib.hid (And.intro hx0 (And.intro hx1 (And.intro hx2 hx3)))
          clear hx0 hx1 hx2 hx3 ha0 ha1 ha2 ha3 cell
          have T0 := turnR x2 7 7 rfl (by decide) (by decide)
          have T1 := turnR x2 18 18 rfl (by decide) (by decide)
          have T2 := turnR x0 17 17 rfl (by decide) (by decide)
          have T3 := turnR x0 19 19 rfl (by decide) (by decide)
          go_wp2_with fail
          refine (T0 _).mono ?_
          rintro e w' ⟨rfl, rfl⟩
          go_wp2_with fail
          refine (T1 _).mono ?_
          rintro e w' ⟨rfl, rfl⟩
          go_wp2_with fail
          refine (T2 _).mono ?_
          rintro e w' ⟨rfl, rfl⟩
          go_wp2_with fail
          refine (T3 _).mono ?_
          rintro e w' ⟨rfl, rfl⟩
          go_wp2
          go_still_tail 15, (by kernel_rfl)
          change wpList _ _ _ _ _ (World.drew _)
          go_wp2
          refine ⟨?_, ?measure⟩
          iterate 48 (apply Exists.intro)
          refine ⟨?rel, rfl⟩
          case rel =>
            obtain ⟨rfl, rfl, rfl, rfl⟩ := Hx.out
            refine ⟨k + 1, by omega, by go_num, (hb.setCell (by simp) _).drew, ?_, (hr0.other _ _ (by simp)).drew⟩
            exact (ha.set (16 + k) (sched (fill2 l1 k) (16 + k))).drew
          case measure => simp [intOf]; omega
        · obtain rfl : k = 48 := by omega
          clear hk48 hk
          have hl2 : (fill2 l1 48).length = 64 := by rw [fill2_length]; exact hl1
          obtain ⟨l2, hL2⟩ : ∃ l, l = fill2 l1 48 := ⟨_, rfl⟩
          rw [← hL2] at ha hl2
          replace hL2 : Hid (l2 = shW bs) := Lib.hid (by rw [hL2, hL1.out]; rfl)
          go_wp2_with (first
            | refine wpList_load_row rfl _ _ rfl _ rfl _ _ _ _ ha Tryd.underlying131 rfl (by rw [wcs_size, hl2]; kernel_rfl) ?_
            | refine wpList_store_row rfl _ _ _ rfl _ _ rfl rfl _ _ hr0 (by rw [wcs_size, hl2]; kernel_rfl) (by rw [wcs_size, wcs_size, hl2]; rfl) (by simp [wcs, Value.oneCell']) ?_)
          exact bodyPost_ret (v := .agg (wcs l2)) (results_cell_row rfl _ _ w.heap.size _ _ (0, 0) _ rfl (setRow_heap _ _ _ _ _ _ hr0) Tryd.underlying131 rfl (by rw [wcs_size, hl2]; kernel_rfl)) rfl ⟨by rw [← hL2.out], below_setRow hb _ _ (Nat.le_refl _)⟩
end Go.Proofs.YtdkknincamkhpaaDoor
