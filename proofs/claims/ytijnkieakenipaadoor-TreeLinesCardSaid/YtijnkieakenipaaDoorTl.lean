/- The law TreeLines: the walk. -/
import Derived.Test.YtijnkieakenipaaDoorTb
namespace Go.Proofs.YtijnkieakenipaaDoor
open Go.RowKit
attribute [local go_sem] zvN zvH
attribute [local simp] zcN_ne zcH_ne
theorem line_own {ns : List Nd} {z : Nat} (hz : z < ns.length) : lineL ns (z : Int) = mLine ns z := by
  rw [lineL, if_pos ⟨by omega, by omega⟩]; rfl
theorem ints_rd {w : World} {A : Option Addr} {l : List Nat} {j z : Nat} (r : Rd w A (l.map iv)) (h : l[j]? = some z) : ∃ b off, A = some ⟨b, off, none⟩ := by
  rcases r with r | ⟨b, off, h1, _⟩
  · rw [List.map_eq_nil_iff] at r; rw [r] at h; cases h
  · exact ⟨b, off, h1⟩
theorem ints_cell {w : World} {b off : Nat} {l : List Nat} {j z : Nat} (r : Rd w (some ⟨b, off, none⟩) (l.map iv)) (h : l[j]? = some z) : w.cell? ⟨b, off + j, none⟩ = some (.int .i64 (z : Int)) := by
  rcases r with r | ⟨b2, o2, h1, h2⟩
  · rw [List.map_eq_nil_iff] at r; rw [r] at h; cases h
  · injection h1 with h1
    injection h1 with h3 h4
    subst h3 h4
    exact h2 j _ (by rw [List.getElem?_map, h]; rfl)
theorem neqHg (x y : List UInt8) (hx : x.length = 32) (hy : y.length = 32) (p q : Operand) (w : World) : (do eqGuard .neq 25 p q (.agg (x.map bv).toArray) (.agg (y.map bv).toArray); binOp .neq 25 (.agg (x.map bv).toArray) (.agg (y.map bv).toArray) : Sem Value).run Tryd.prog w = .ok (.bool (!(x == y))) w := by
  rw [Sem.run_bind, show (eqGuard .neq 25 p q (.agg (x.map bv).toArray) (.agg (y.map bv).toArray)).run Tryd.prog w = .ok () w by go_simp]
  have := neqP x y hx hy w
  simpa using this
theorem neqUself (a : Nat) (p q : Operand) (w : World) : (do eqGuard .neq 39 p q (.agg (uc a).toArray) (.agg (uc a).toArray); binOp .neq 39 (.agg (uc a).toArray) (.agg (uc a).toArray) : Sem Value).run Tryd.prog w = .ok (.bool false) w := by
  unfold uc
  rw [neqUg]
  simp
theorem rg_sub {w : World} {b o : Nat} {cs ds : List Value} (pre rest : List Value) (r : w.rangeAt b o cs) (e : cs = pre ++ (ds ++ rest)) : w.rangeAt b (o + pre.length) ds := fun j u hu => by
  have := r (pre.length + j) u (by
    rw [e, List.getElem?_append_right (by omega), Nat.add_sub_cancel_left, List.getElem?_append_left (List.getElem?_eq_some_iff.1 hu).1]
    exact hu)
  rw [Nat.add_assoc]
  exact this
theorem nd_all {w : World} {g : Nat} {n : Nd} (h : Av w g 41 (ndc n)) : w.rangeAt g 0 (ndc n) := by
  have := Av.rangeAt (pre := []) (rest := []) (cs := ndc n) (by simpa using h) 0 rfl
  simpa using this
theorem nd_id {w : World} {g : Nat} {n : Nd} (h : Av w g 41 (ndc n)) : w.rangeAt g 0 (n.id.map bv) := by
  have := rg_sub (ds := n.id.map bv) [] _ (nd_all h) rfl
  simpa using this
theorem nd_head {w : World} {g : Nat} {n : Nd} (ok : NdOk n) (h : Av w g 41 (ndc n)) : w.rangeAt g 32 (hdc n.head) := by
  have := rg_sub (ds := hdc n.head) (n.id.map bv) _ (nd_all h) rfl
  rw [List.length_map, ok.id] at this
  simpa using this
theorem nd_prev {w : World} {g : Nat} {n : Nd} (ok : NdOk n) (h : Av w g 41 (ndc n)) : w.rangeAt g 33 (n.head.prev.map bv) := by
  exact rg_sub (ds := n.head.prev.map bv) [_] _ (nd_head ok h) rfl
theorem nd_wrk {w : World} {g : Nat} {n : Nd} (ok : NdOk n) (h : Av w g 41 (ndc n)) : w.rangeAt g 102 (uc n.wrk) := by
  have := rg_work ok (nd_all h)
  simpa using this
theorem nd_bits {w : World} {g : Nat} {n : Nd} (ok : NdOk n) (h : Av w g 41 (ndc n)) : w.cell? ⟨g, 98, none⟩ = some (.int .u32 (n.head.bits : Int)) := by
  exact rg_cell (nd_head ok h) (hdc_at ok.head).2.2.1
set_option maxRecDepth 100000 in
set_option maxHeartbeats 8000000 in
theorem law_TreeLines (l : List Hd) (A : Option Addr) (n c : Nat) (hn : l.length = n) (w : World) (ht : Tabs w) (hr : RdHds w A l) :
    Calls Tryd.prog 4 #[.slice A n c] w fun e w' => e = .returned (.bool true) ∧ Below w.heap.size w w' := by
  have HAW := Lib.hid (awake15 w ht)
  replace hn := Lib.hid hn
  by_cases hbig : 40 < n
  · have t0 : decide ((40 : Int) < (n : Int)) = true := by simp; omega
    have t0' : decide (40 < n) = true := by simpa using hbig
    clear hr
    go_enter Tryd.func4, Tryd.ntmps4
    go_wp2_with (go_at_call 9; refine (HAW.out).mono ?_; rintro e w1 ⟨rfl, b1⟩)
    go_ret
    exact ⟨rfl, b1⟩
  have t0 : decide ((40 : Int) < (n : Int)) = false := by simp; omega
  have t0' : decide (40 < n) = false := by simpa using hbig
  go_enter Tryd.func4, Tryd.ntmps4
  go_upto_region 2 with (go_at_call 9; refine (HAW.out).mono ?_; rintro e w1 ⟨rfl, b1⟩)
  have HN := Lib.hid (TNew 60 w1)
  obtain ⟨Bs, hBs⟩ : ∃ B, B = w1.heap.size := ⟨_, rfl⟩
  have hBw : w.heap.size ≤ Bs := by rw [hBs]; exact b1.size
  have e60 : clampN 60 = 60 := rfl
  rw [e60, ← hBs] at HN
  replace hBs := Lib.hid hBs
  clear e60
  go_upto_region 5 with (go_at_call 10; refine (HN.out).mono ?_; rintro e w2 ⟨⟨R, M, rfl, T2⟩, b2⟩)
  have b02 : Below w.heap.size w w2 := b1.trans (b2.mono hBw)
  clear b1 b2
  go_upto_region 6 with fail
  go_loopw [5] (fun iv wr => ∃ (k : Nat) (v : Value), k ≤ n ∧ iv = .int .i64 (k : Int) ∧ TAt wr Bs R 60 v M (mAll 60 (l.take k)) ∧ Below w.heap.size w wr) (fun iv _ => n - (intOf iv).toNat)
  case atStart => exact ⟨0, _, by omega, rfl, T2, b02⟩
  case round =>
    clear T2 b02
    obtain ⟨k, v, hk, rfl, T, bw⟩ := hrel
    by_cases hlt : k < n
    · have t1 : decide ((k : Int) < (n : Int)) = true := by simp; omega
      obtain ⟨x, hx⟩ : ∃ x, l[k]? = some x := ⟨_, List.getElem?_eq_getElem (by rw [hn.out]; exact hlt)⟩
      obtain ⟨b, off, rfl⟩ := hr.adr (by rw [hn.out]; omega)
      obtain ⟨rx, xok⟩ := (hr.below bw).nth k x hx
      have hBr : Bs ≤ wr.heap.size := Nat.le_trans T.hR (Nat.le_of_lt T.av.lt)
      have HA := Lib.hid (TAdd Bs R 60 v M (mAll 60 (l.take k)) x xok wr (ht.below bw) T hBr)
      have hnx := Lib.hid (mAll_take 60 l k x hx)
      have x68 := Lib.hid (hdc_length xok)
      have rx2 := Lib.hid rx
      have m0 : (0 : Int) ≤ (k : Int) := by omega
      have m1 : (k : Int) < (n : Int) := by omega
      replace hx := Lib.hid hx
      clear rx
      go_wp2_with (first
        | ((with_reducible refine wpList_loadMF 27 (hdc x) rx2.out ?_ _ Tryd.underlying27 ?_ ?_ ?_); rfl; rfl; (rw [x68.out]; kernel_rfl))
        | (go_at_call 11; refine (HA.out).mono ?_; rintro e w5 ⟨rfl, ⟨v5, T5⟩, b5, K5⟩))
      rw [← hnx.out] at T5
      replace T5 := Lib.hid T5
      have b05 := Lib.hid (bw.trans (b5.mono hBw))
      refine ⟨⟨k + 1, v5, by omega, by go_num, T5.out, b05.out⟩, ?_⟩
      simp [intOf]; omega
    · obtain rfl : k = n := by omega
      have t1 : decide ((k : Int) < (k : Int)) = false := by simp
      have htk : l.take k = l := List.take_of_length_le (by rw [hn.out]; exact Nat.le_refl _)
      rw [htk] at T
      obtain ⟨ns, hns⟩ : ∃ ns, ns = mAll 60 l := ⟨_, rfl⟩
      rw [← hns] at T
      have ok : TOk ns := T.ok
      have hnl : ns.length ≤ k := by rw [hns, ← hn.out]; exact mAll_len 60 l
      replace htk := Lib.hid htk
      replace hns := Lib.hid hns
      obtain ⟨w3, hw3⟩ : ∃ w3, w3 = wr := ⟨_, rfl⟩
      rw [← hw3] at T bw ⊢
      clear hw3
      obtain ⟨N, hN⟩ : ∃ N, N = ns.length := ⟨_, rfl⟩
      have hNk : N ≤ k := by omega
      have HL := Lib.hid (fun (w' : World) (q : TRef w' (.pointer (some ⟨R, 0, none⟩)) ns) => TLen _ ns w' q)
      rw [← hN] at HL
      have tr := T.ref
      replace hN := Lib.hid hN
      have tNk : decide ((N : Int) ≤ (k : Int)) = true := by simp; omega
      have tNk' : decide (N ≤ k) = true := by simpa using hNk
      clear T
      go_upto_region 10 with fail
      go_loopw [6] (fun iv wr => ∃ i : Nat, i ≤ N ∧ iv = .int .i64 (i : Int) ∧ Below w3.heap.size w3 wr) (fun iv _ => N - (intOf iv).toNat)
      case atStart => exact ⟨0, by omega, rfl, Below.refl _ _⟩
      case round =>
        obtain ⟨i, hi, rfl, bi⟩ := hrel
        have tri := tr.below bi
        have bwi := bw.trans (bi.mono bw.size)
        by_cases hlt : i < N
        · have u1 : decide ((i : Int) < (N : Int)) = true := by simp; omega
          clear tNk tNk'
          have hiN : i < ns.length := by rw [← hN.out]; exact hlt
          obtain ⟨x, hx⟩ : ∃ x, ns[i]? = some x := ⟨_, List.getElem?_eq_getElem hiN⟩
          have xok := ok.nds x (List.mem_of_getElem? hx)
          have hxid : hdId x.head = x.id := ((ok.head i x hx).2.1).symm
          have x106 := Lib.hid (ndc_length xok)
          have xone := Lib.hid (List.all_eq_true.2 (ndc_one x))
          have i32 := Lib.hid xok.id
          have h68 := Lib.hid (hdc_length xok.head)
          have HLn := fun (w' : World) (q : TRef w' (.pointer (some ⟨R, 0, none⟩)) ns) => TLine _ ns ok (i : Int) (by omega) w' q
          rw [line_own hiN] at HLn
          have HN1 := fun (w' : World) (q : TRef w' (.pointer (some ⟨R, 0, none⟩)) ns) => TNode _ ns (i : Int) (by omega) w' q
          rw [nodeV_in hx] at HN1
          have HF := fun (w' : World) (q : TRef w' (.pointer (some ⟨R, 0, none⟩)) ns) => TFind _ ns x.id xok.id w' q
          rw [tFind_of ok hx] at HF
          have HI := fun (w' : World) (q : Tabs w') => HdId x.head xok.head w' q
          rw [hxid] at HI
          have NQ := neqHg x.id x.id xok.id xok.id
          rw [beq_self_eq_true] at NQ
          have GI : ∀ (w' : World) (g : Nat), Av w' g 41 (ndc x) → w'.rangeAt g 0 (x.id.map bv) := fun w' g h => nd_id h
          have GHd : ∀ (w' : World) (g : Nat), Av w' g 41 (ndc x) → w'.rangeAt g 32 (hdc x.head) := fun w' g h => nd_head xok h
          have GP : ∀ (w' : World) (g : Nat), Av w' g 41 (ndc x) → w'.rangeAt g 33 (x.head.prev.map bv) := fun w' g h => nd_prev xok h
          have GW : ∀ (w' : World) (g : Nat), Av w' g 41 (ndc x) → w'.rangeAt g 102 (uc x.wrk) := fun w' g h => nd_wrk xok h
          have GB : ∀ (w' : World) (g : Nat), Av w' g 41 (ndc x) → w'.cell? ⟨g, 98, none⟩ = some (.int .u32 (x.head.bits : Int)) := fun w' g h => nd_bits xok h
          obtain ⟨q100, q101⟩ := ndc_at xok
          obtain ⟨G, hG⟩ : ∃ G, G = x.hgt := ⟨_, rfl⟩
          rw [← hG] at q101
          have hGt : tHgt ns i = G := by rw [tHgt_at hx, hG]
          have hGi : G ≤ i := by rw [← hGt]; exact ok.hgt_le hiN
          have lG : (mLine ns i)[G]? = some i := by rw [mLine_at ns i G (by omega), hGt, Nat.sub_self]; rfl
          have l0 : (mLine ns i)[0]? = some 0 := by rw [mLine_at ns i 0 (by omega), Nat.sub_zero, ok.anc_root hiN]
          obtain ⟨L, hL⟩ : ∃ L, L = G + 1 := ⟨_, rfl⟩
          have hlL : (mLine ns i).length = L := by rw [mLine_length, hGt, hL]
          have wG : IntKind.i64.wrap ((G : Int) + 1) = (L : Int) := by rw [IntKind.wrap_i64]; omega
          have wL1 : IntKind.i64.wrap ((L : Int) - 1) = (G : Int) := by rw [IntKind.wrap_i64]; omega
          have gG0 : (0 : Int) ≤ (G : Int) := by omega
          have gG1 : (G : Int) < (L : Int) := by omega
          have gL0 : (0 : Int) < (L : Int) := by omega
          have i0 : (0 : Int) ≤ (i : Int) := by omega
          have hL0n : ¬ L = 0 := by omega
          replace HLn := Lib.hid HLn
          replace HN1 := Lib.hid HN1
          replace HF := Lib.hid HF
          replace HI := Lib.hid HI
          replace NQ := Lib.hid NQ
          replace GI := Lib.hid GI
          replace GHd := Lib.hid GHd
          replace GP := Lib.hid GP
          replace GW := Lib.hid GW
          replace GB := Lib.hid GB
          replace q100 := Lib.hid q100
          replace q101 := Lib.hid q101
          replace hG := Lib.hid hG
          replace hGt := Lib.hid hGt
          replace hx := Lib.hid hx
          replace hL := Lib.hid hL
          replace lG := Lib.hid lG
          replace l0 := Lib.hid l0
          replace hlL := Lib.hid hlL
          clear hxid
          go_upto_region 13 with (first
            | (go_at_call 15; refine (HL.out _ tri).mono ?_; rintro e w6 ⟨rfl, rfl⟩)
            | (go_at_call 17; refine (HLn.out _ tri).mono ?_; rintro e wl ⟨⟨_, rfl, Al, nl, cl0, rfl, hll, rl⟩, bl0⟩))
          obtain rfl : L = nl := by rw [← hll]; exact hlL.out.symm
          have trl := tri.below bl0
          have bil := bi.trans (bl0.mono bi.size)
          have bwl := bwi.trans (bl0.mono bwi.size)
          obtain ⟨bl, ol, rfl⟩ := ints_rd rl l0.out
          replace hll := Lib.hid hll
          replace rl := Lib.hid rl
          clear tri bi bwi bl0
          go_upto_region 14 with (first
            | (go_at_call 14; refine (HN1.out _ trl).mono ?_; rintro e w9 ⟨rfl, b9⟩)
            | ((with_reducible refine wpList_storeF 41 ((Below.refl w9.heap.size w9).alloc (Nat.le_refl _) _) (heap_alloc_new _ _) (Nat.le_refl _) (ndc x) ?_ ?_ 106 ?_ ?_ ?_ ?_ ?_); rfl; rfl; exact x106.out; kernel_rfl; exact zcN_len; exact xone.out; intro wa a8 b8 k8 z8; clear k8; replace z8 := Lib.hid z8))
          have bla := b9.trans (b8.mono b9.size)
          have tra := trl.below bla
          have bia := bil.trans (bla.mono bil.size)
          have bwa := bwl.trans (bla.mono bwl.size)
          have rla := Lib.hid (rl.out.below bla)
          obtain ⟨g8, hg8⟩ : ∃ g, g = w9.heap.size := ⟨_, rfl⟩
          rw [← hg8] at a8 ⊢
          replace hg8 := Lib.hid hg8
          clear b9 b8 bla trl bil bwl rl
          have rid := Lib.hid (GI.out _ _ a8)
          go_upto_region 15 with (first
            | ((with_reducible refine wpList_loadMF 25 (x.id.map bv) rid.out ?_ _ Tryd.underlying25 ?_ ?_ ?_); rfl; rfl; (rw [List.length_map, i32.out]; kernel_rfl))
            | (go_at_call 12; refine (HF.out _ tra).mono ?_; rintro e wf ⟨rfl, bf⟩))
          have trf := tra.below bf
          have bfx := bia.trans (bf.mono bia.size)
          have bw8 := bwa.trans (bf.mono bwa.size)
          have rlf := rla.out.below bf
          replace a8 := a8.below bf
          have cG : ∀ w', Below wf.heap.size wf w' → w'.cell? ⟨bl, ol + G, none⟩ = some (.int .i64 (i : Int)) := fun w' h => ints_cell (rlf.below h) lG.out
          have c0 : ∀ w', Below wf.heap.size wf w' → w'.cell? ⟨bl, ol, none⟩ = some (.int .i64 0) := fun w' h => ints_cell (rlf.below h) l0.out
          replace cG := Lib.hid cG
          replace c0 := Lib.hid c0
          replace rlf := Lib.hid rlf
          clear tra bia bwa rla rid bf
          refine wp_region_rel [] Ext (by kernel_rfl) (by kernel_rfl) (by kernel_rfl) Ext.refl Ext.trans (by intro p hp; cases hp) ?_
          refine relMove Ext.refl rfl rfl rfl rfl _ (.inl rfl) (by conv => lhs; whnf) (by simp only [List.set_cons_succ, List.set_cons_zero]; rfl) ?_
          refine relPure Ext.refl rfl rfl rfl rfl (c := .int .i64 (L : Int)) (fun w _ => by go_simp; first | done | rfl) (by simp only [List.set_cons_succ, List.set_cons_zero]; rfl) ?_
          refine relPure Ext.refl rfl rfl rfl rfl (c := .pointer (some ⟨g8, 101, none⟩)) (fun w _ => by go_simp; first | done | rfl) (by simp only [List.set_cons_succ, List.set_cons_zero]; rfl) ?_
          refine relPure Ext.refl rfl rfl rfl rfl (c := .int .i64 (G : Int)) (fun w hw => by have := (a8.below hw.drew).cell 101 _ q101.out; go_simp; first | done | rfl) (by simp only [List.set_cons_succ, List.set_cons_zero]; rfl) ?_
          refine relPure Ext.refl rfl rfl rfl rfl (c := .int .i64 (L : Int)) (fun w _ => by have := wG; go_simp; first | done | rfl) (by simp only [List.set_cons_succ, List.set_cons_zero]; rfl) ?_
          refine relPure Ext.refl rfl rfl rfl rfl (c := .bool false) (fun w _ => by go_simp; first | done | rfl) (by simp only [List.set_cons_succ, List.set_cons_zero]; rfl) ?_
          refine relMove Ext.refl rfl rfl rfl rfl _ (.inl rfl) (by conv => lhs; whnf) (by simp only [List.set_cons_succ, List.set_cons_zero]; rfl) ?_
          refine relMove Ext.refl rfl rfl rfl rfl _ (.inl rfl) (by conv => lhs; whnf) (by simp only [List.set_cons_succ, List.set_cons_zero]; rfl) ?_
          refine relMove Ext.refl rfl rfl rfl rfl _ (.inl rfl) (by conv => lhs; whnf) (by simp only [List.set_cons_succ, List.set_cons_zero]; rfl) ?_
          refine relPure Ext.refl rfl rfl rfl rfl (c := .int .i64 (L : Int)) (fun w _ => by go_simp; first | done | rfl) (by simp only [List.set_cons_succ, List.set_cons_zero]; rfl) ?_
          refine relPure Ext.refl rfl rfl rfl rfl (c := .int .i64 (G : Int)) (fun w _ => by have := wL1; go_simp; first | done | rfl) (by simp only [List.set_cons_succ, List.set_cons_zero]; rfl) ?_
          refine relPure Ext.refl rfl rfl rfl rfl (c := .pointer (some ⟨bl, ol + G, none⟩)) (fun w _ => by have := gG0; have := gG1; go_simp; first | done | rfl) (by simp only [List.set_cons_succ, List.set_cons_zero]; rfl) ?_
          refine relPure Ext.refl rfl rfl rfl rfl (c := .int .i64 (i : Int)) (fun w hw => by have := cG.out _ hw.drew; go_simp; first | done | rfl) (by simp only [List.set_cons_succ, List.set_cons_zero]; rfl) ?_
          refine relMove Ext.refl rfl rfl rfl rfl _ (.inl rfl) (by conv => lhs; whnf) (by simp only [List.set_cons_succ, List.set_cons_zero]; rfl) ?_
          refine relPure Ext.refl rfl rfl rfl rfl (c := .bool false) (fun w _ => by go_simp; first | done | rfl) (by simp only [List.set_cons_succ, List.set_cons_zero]; rfl) ?_
          refine relPick Ext.refl rfl rfl rfl rfl _ _ _ rfl rfl (by conv => lhs; whnf) (by simp only [List.set_cons_succ, List.set_cons_zero]; rfl) ?_
          refine relMove Ext.refl rfl rfl rfl rfl _ (.inl rfl) (by conv => lhs; whnf) (by simp only [List.set_cons_succ, List.set_cons_zero]; rfl) ?_
          refine relMove Ext.refl rfl rfl rfl rfl _ (.inl rfl) (by conv => lhs; whnf) (by simp only [List.set_cons_succ, List.set_cons_zero]; rfl) ?_
          refine relPure Ext.refl rfl rfl rfl rfl (c := .pointer (some ⟨bl, ol, none⟩)) (fun w _ => by have := gL0; have := hL0n; go_simp; first | done | rfl) (by simp only [List.set_cons_succ, List.set_cons_zero]; rfl) ?_
          refine relPure Ext.refl rfl rfl rfl rfl (c := .int .i64 0) (fun w hw => by have := c0.out _ hw.drew; go_simp; first | done | rfl) (by simp only [List.set_cons_succ, List.set_cons_zero]; rfl) ?_
          refine relPure Ext.refl rfl rfl rfl rfl (c := .bool false) (fun w _ => by go_simp; first | done | rfl) (by simp only [List.set_cons_succ, List.set_cons_zero]; rfl) ?_
          refine relPick Ext.refl rfl rfl rfl rfl _ _ _ rfl rfl (by conv => lhs; whnf) (by simp only [List.set_cons_succ, List.set_cons_zero]; rfl) ?_
          refine relMove Ext.refl rfl rfl rfl rfl _ (.inl rfl) (by conv => lhs; whnf) (by simp only [List.set_cons_succ, List.set_cons_zero]; rfl) ?_
          refine relMove Ext.refl rfl rfl rfl rfl _ (.inl rfl) (by conv => lhs; whnf) (by simp only [List.set_cons_succ, List.set_cons_zero]; rfl) ?_
          refine relPure Ext.refl rfl rfl rfl rfl (c := .bool false) (fun w _ => by go_simp; first | done | rfl) (by simp only [List.set_cons_succ, List.set_cons_zero]; rfl) ?_
          refine relPick Ext.refl rfl rfl rfl rfl _ _ _ rfl rfl (by conv => lhs; whnf) (by simp only [List.set_cons_succ, List.set_cons_zero]; rfl) ?_
          refine relMove Ext.refl rfl rfl rfl rfl _ (.inl rfl) (by conv => lhs; whnf) (by simp only [List.set_cons_succ, List.set_cons_zero]; rfl) ?_
          refine relMove Ext.refl rfl rfl rfl rfl _ (.inl rfl) (by conv => lhs; whnf) (by simp only [List.set_cons_succ, List.set_cons_zero]; rfl) ?_
          refine relMove Ext.refl rfl rfl rfl rfl _ (.inl rfl) (by conv => lhs; whnf) (by simp only [List.set_cons_succ, List.set_cons_zero]; rfl) ?_
          refine relPure Ext.refl rfl rfl rfl rfl (c := .bool false) (fun w _ => by go_simp; first | done | rfl) (by simp only [List.set_cons_succ, List.set_cons_zero]; rfl) ?_
          refine relPick Ext.refl rfl rfl rfl rfl _ _ _ rfl rfl (by conv => lhs; whnf) (by simp only [List.set_cons_succ, List.set_cons_zero]; rfl) ?_
          refine relMove Ext.refl rfl rfl rfl rfl _ (.inl rfl) (by conv => lhs; whnf) (by simp only [List.set_cons_succ, List.set_cons_zero]; rfl) ?_
          refine relPure Ext.refl rfl rfl rfl rfl (c := .pointer (some ⟨g8, 0, none⟩)) (fun w _ => by go_simp; first | done | rfl) (by simp only [List.set_cons_succ, List.set_cons_zero]; rfl) ?_
          refine relPure Ext.refl rfl rfl rfl rfl (c := .agg (x.id.map bv).toArray) (fun w hw => exec_load_mid _ _ rfl g8 0 rfl (x.id.map bv) _ (GI.out _ _ (a8.below hw.drew)) Tryd.underlying25 rfl (by rw [List.length_map, i32.out]; kernel_rfl)) (by simp only [List.set_cons_succ, List.set_cons_zero]; rfl) ?_
          refine relPure Ext.refl rfl rfl rfl rfl (c := .pointer (some ⟨g8, 32, none⟩)) (fun w _ => by go_simp; first | done | rfl) (by simp only [List.set_cons_succ, List.set_cons_zero]; rfl) ?_
          refine relPure Ext.refl rfl rfl rfl rfl (c := .agg (hdc x.head).toArray) (fun w hw => exec_load_mid _ _ rfl g8 32 rfl (hdc x.head) _ (GHd.out _ _ (a8.below hw.drew)) Tryd.underlying27 rfl (by rw [h68.out]; kernel_rfl)) (by simp only [List.set_cons_succ, List.set_cons_zero]; rfl) ?_
          refine relCall1 rfl rfl rfl rfl (c := .agg (x.id.map bv).toArray) 18 #[.agg (hdc x.head).toArray] (fun w => by go_simp) (fun w hw => (HI.out w (ht.below (bw8.trans (hw.drew.mono bw8.size)))).mono ?_) (by simp only [List.set_cons_succ, List.set_cons_zero]; rfl) ?_
          · rintro e w' ⟨rfl, b⟩
            exact ⟨rfl, b⟩
          refine relBin Ext.refl rfl rfl rfl rfl _ _ _ _ _ rfl (by conv => lhs; whnf) (by conv => lhs; whnf) (c := .bool false) (fun w => NQ.out _ _ w) (by simp only [List.set_cons_succ, List.set_cons_zero]; rfl) ?_
          refine relPick Ext.refl rfl rfl rfl rfl _ _ _ rfl rfl (by conv => lhs; whnf) (by simp only [List.set_cons_succ, List.set_cons_zero]; rfl) ?_
          refine relEnd fun w15 hw15 => fill_end ?_
          have b15 := hw15.drew
          have tr15 := trf.below b15
          have bi15 := bfx.trans (b15.mono bfx.size)
          have bw15 := bw8.trans (b15.mono bw8.size)
          have rl15 := Lib.hid (rlf.out.below b15)
          replace a8 := a8.below b15
          have c101 := a8.cell 101 _ q101.out
          clear trf bfx bw8 rlf b15 hw15 cG c0 wL1
          by_cases hG0 : G = 0
          · have tG : decide ((0 : Int) < (G : Int)) = false := by simp; omega
            clear a8 tr15 bw15
            go_wp2
            refine ⟨⟨i + 1, by omega, by go_num, bi15⟩, ?_⟩
            simp [intOf]; omega
          · have tG : decide ((0 : Int) < (G : Int)) = true := by simp; omega
            have hi0 : i ≠ 0 := by
              intro h
              have := (ok.hgt_0 hiN).2 h
              rw [hGt.out] at this
              omega
            obtain ⟨p, m, e1, e2, e3, e4, e5, e6⟩ := ok.step i x hx.out hi0
            obtain ⟨J, hJ⟩ : ∃ J, J = m.hgt := ⟨_, rfl⟩
            have hGJ : G = J + 1 := by rw [hG.out, e4, hJ]
            have mok := ok.nds m (List.mem_of_getElem? e3)
            have m106 := Lib.hid (ndc_length mok)
            have mone := Lib.hid (List.all_eq_true.2 (ndc_one m))
            have m32 := Lib.hid mok.id
            obtain ⟨_, m101⟩ := ndc_at mok
            rw [← hJ] at m101
            have q100b := q100.out
            rw [e1] at q100b
            have HN2 := fun (w' : World) (q : TRef w' (.pointer (some ⟨R, 0, none⟩)) ns) => TNode _ ns (p : Int) (by omega) w' q
            rw [nodeV_in e3] at HN2
            have lJ : (mLine ns i)[J]? = some p := by
              rw [mLine_at ns i J (by rw [hGt.out]; omega), hGt.out, show G - J = 0 + 1 by omega]
              have := (tAt hx.out).1
              rw [e1] at this
              simp only [tAnc, this]
              rfl
            have hLJ : L = J + 2 := by rw [hL.out, hGJ]
            have wL2 : IntKind.i64.wrap ((L : Int) - 2) = (J : Int) := by rw [IntKind.wrap_i64]; omega
            have wJ : IntKind.i64.wrap ((J : Int) + 1) = (G : Int) := by rw [IntKind.wrap_i64]; omega
            have gJ0 : (0 : Int) ≤ (J : Int) := by omega
            have gJ1 : (J : Int) < (L : Int) := by omega
            have HWb := TWork x.head.bits xok.head.2.2.2.2.1
            have HS := UAdd m.wrk (mWork x.head.bits) mok.wrk (mWork_lt _)
            rw [← e5] at HS
            obtain ⟨bb, hbb⟩ : ∃ b, b = x.head.bits := ⟨_, rfl⟩
            obtain ⟨Wk, hWk⟩ : ∃ k, k = mWork bb := ⟨_, rfl⟩
            rw [← hbb] at HWb HS
            rw [← hWk] at HWb HS
            obtain ⟨ov, hov⟩ : ∃ o, o = decide (115792089237316195423570985008687907853269984665640564039457584007913129639936 ≤ m.wrk + Wk) := ⟨_, rfl⟩
            rw [← hov] at HS
            have HW := HWb
            have GB2 := GB.out
            rw [← hbb] at GB2
            have GP2 := GP.out
            rw [e6] at GP2
            have NP := neqHg m.id m.id mok.id mok.id
            rw [beq_self_eq_true] at NP
            have NU := neqUself x.wrk
            have GIm : ∀ (w' : World) (g : Nat), Av w' g 41 (ndc m) → w'.rangeAt g 0 (m.id.map bv) := fun w' g h => nd_id h
            have GWm : ∀ (w' : World) (g : Nat), Av w' g 41 (ndc m) → w'.rangeAt g 102 (uc m.wrk) := fun w' g h => nd_wrk mok h
            have tpi : decide ((i : Int) ≤ (p : Int)) = false := decide_eq_false (by omega)
            have tpi2 : p < i := e2
            have p0 : (0 : Int) ≤ (p : Int) := by omega
            have c100 := a8.cell 100 _ q100b
            replace q100 := Lib.hid q100b
            replace m101 := Lib.hid m101
            replace HN2 := Lib.hid HN2
            replace HW := Lib.hid HW
            replace HS := Lib.hid HS
            replace GB := Lib.hid GB2
            replace GP := Lib.hid GP2
            replace NP := Lib.hid NP
            replace NU := Lib.hid NU
            replace GIm := Lib.hid GIm
            replace GWm := Lib.hid GWm
            replace lJ := Lib.hid lJ
            replace hLJ := Lib.hid hLJ
            replace hGJ := Lib.hid hGJ
            replace hbb := Lib.hid hbb
            replace hWk := Lib.hid hWk
            replace hov := Lib.hid hov
            clear e1 e3 e4 e5 e6 HWb GB2 GP2 q100b hJ
            go_upto_region 18 with fail
            go_upto_region 19 with (first
              | (go_at_call 14; refine (HN2.out _ tr15).mono ?_; rintro e w16 ⟨rfl, b16⟩)
              | ((with_reducible refine wpList_storeF 41 ((Below.refl w16.heap.size w16).alloc (Nat.le_refl _) _) (heap_alloc_new _ _) (Nat.le_refl _) (ndc m) ?_ ?_ 106 ?_ ?_ ?_ ?_ ?_); rfl; rfl; exact m106.out; kernel_rfl; exact zcN_len; exact mone.out; intro w18 an bn kn zn; clear kn; replace zn := Lib.hid zn))
            have b18 := b16.trans (bn.mono b16.size)
            have tr18 := tr15.below b18
            have bi18 := bi15.trans (b18.mono bi15.size)
            have bw18 := bw15.trans (b18.mono bw15.size)
            have rl18 := Lib.hid (rl15.out.below b18)
            replace a8 := a8.below b18
            obtain ⟨g12, hg12⟩ : ∃ g, g = w16.heap.size := ⟨_, rfl⟩
            rw [← hg12] at an ⊢
            have am := an
            replace hg12 := Lib.hid hg12
            clear an bn b16 b18 tr15 bi15 bw15 rl15 c100 c101
            refine wp_region_relO [⟨10, 14, 11, 39, uq4 0 0 0 0, uc x.wrk⟩] [] (by kernel_rfl) (by kernel_rfl) (by kernel_rfl) (by kernel_rfl) (by kernel_rfl) (by intro e he; cases he) (by simp) (by intro e he; cases he) ?_
            refine oPure rfl rfl rfl rfl (c := .pointer (some ⟨g12, 102, none⟩)) (fun w _ => by go_simp; first | done | rfl) (by simp only [List.set_cons_succ, List.set_cons_zero]; rfl) ?_
            refine oPure rfl rfl rfl rfl (c := .agg (uc m.wrk).toArray) (fun w hw => exec_load_mid _ _ rfl g12 102 rfl (uc m.wrk) _ (GWm.out _ _ (am.below hw.nil)) Tryd.underlying39 rfl (by kernel_rfl)) (by simp only [List.set_cons_succ, List.set_cons_zero]; rfl) ?_
            refine oPure rfl rfl rfl rfl (c := .pointer (some ⟨g8, 32, none⟩)) (fun w _ => by go_simp; first | done | rfl) (by simp only [List.set_cons_succ, List.set_cons_zero]; rfl) ?_
            refine oPure rfl rfl rfl rfl (c := .pointer (some ⟨g8, 98, none⟩)) (fun w _ => by go_simp; first | done | rfl) (by simp only [List.set_cons_succ, List.set_cons_zero]; rfl) ?_
            refine oPure rfl rfl rfl rfl (c := .int .u32 (bb : Int)) (fun w hw => by have := GB.out _ _ (a8.below hw.nil); go_simp; first | done | rfl) (by simp only [List.set_cons_succ, List.set_cons_zero]; rfl) ?_
            refine oCall1 rfl rfl rfl rfl (c := .agg (uc Wk).toArray) 20 #[.int .u32 (bb : Int)] (fun w => by go_simp) (fun w hw => (HW.out w).mono (by rintro e w' ⟨rfl, b⟩; exact ⟨rfl, b⟩)) (by simp only [List.set_cons_succ, List.set_cons_zero]; rfl) ?_
            refine oCall1 rfl rfl rfl rfl (c := .tuple #[.agg (uc x.wrk).toArray, .bool ov]) 19 #[.agg (uc m.wrk).toArray, .agg (uc Wk).toArray] (fun w => by go_simp) (fun w hw => (HS.out w).mono (by rintro e w' ⟨rfl, b⟩; exact ⟨rfl, b⟩)) (by simp only [List.set_cons_succ, List.set_cons_zero]; rfl) ?_
            refine oMove rfl rfl rfl rfl _ (.inl rfl) (by conv => lhs; whnf) (by simp only [List.set_cons_succ, List.set_cons_zero]; rfl) ?_
            refine oPure rfl rfl rfl rfl (fun w _ => by go_simp; first | done | rfl) (by simp only [List.set_cons_succ, List.set_cons_zero]; rfl) ?_
            refine oPure rfl rfl rfl rfl (fun w _ => by go_simp; first | done | rfl) (by simp only [List.set_cons_succ, List.set_cons_zero]; rfl) ?_
            refine oAlloc rfl rfl (fun ρ w => by unfold execOp; go_simp; rfl) ?_
            refine oStore rfl rfl (fun w hw => fill_take rfl rfl fun v _ => fill_end fun b hb h0 => ?_) ?_
            · simp at hb
              subst hb
              exact bStoreRow h0 rfl _ _ _ rfl rfl rfl 4 rfl (by kernel_rfl) (uc_one x.wrk)
            refine oMove rfl rfl rfl rfl _ (.inr rfl) (by conv => lhs; whnf) (by simp only [List.set_cons_succ, List.set_cons_zero]; rfl) ?_
            refine oEnd fun w19 hw19 => fill_take rfl rfl fun v14 _ => fill_end fun hJ _ => ?_
            obtain ⟨g14, hb, _, a14⟩ := hJ.at_ ⟨10, 14, 11, 39, uq4 0 0 0 0, uc x.wrk⟩ (List.mem_cons_self ..) rfl
            simp at hb
            subst hb
            replace a14 : Av w19 g14 39 (uc x.wrk) := a14
            have b19 := hw19.nil
            have tr19 := tr18.below b19
            have bi19 := bi18.trans (b19.mono bi18.size)
            have bw19 := bw18.trans (b19.mono bw18.size)
            have rl19 := rl18.out.below b19
            replace a8 := a8.below b19
            replace am := am.below b19
            have cJ : ∀ w', Below w19.heap.size w19 w' → w'.cell? ⟨bl, ol + J, none⟩ = some (.int .i64 (p : Int)) := fun w' h => ints_cell (rl19.below h) lJ.out
            replace cJ := Lib.hid cJ
            clear hw19 hJ tr18 bi18 bw18 rl18 rl19 b19
            simp only [List.set_cons_succ, List.set_cons_zero]
            go_upto_region 20 with fail
            refine wp_region_rel [] Ext (by kernel_rfl) (by kernel_rfl) (by kernel_rfl) Ext.refl Ext.trans (by intro p hp; cases hp) ?_
            refine relMove Ext.refl rfl rfl rfl rfl _ (.inl rfl) (by conv => lhs; whnf) (by simp only [List.set_cons_succ, List.set_cons_zero]; rfl) ?_
            refine relPure Ext.refl rfl rfl rfl rfl (c := .bool false) (fun w _ => by go_simp; first | done | rfl) (by simp only [List.set_cons_succ, List.set_cons_zero]; rfl) ?_
            refine relMove Ext.refl rfl rfl rfl rfl _ (.inl rfl) (by conv => lhs; whnf) (by simp only [List.set_cons_succ, List.set_cons_zero]; rfl) ?_
            refine relPure Ext.refl rfl rfl rfl rfl (c := .pointer (some ⟨g8, 32, none⟩)) (fun w _ => by go_simp; first | done | rfl) (by simp only [List.set_cons_succ, List.set_cons_zero]; rfl) ?_
            refine relPure Ext.refl rfl rfl rfl rfl (c := .pointer (some ⟨g8, 33, none⟩)) (fun w _ => by go_simp; first | done | rfl) (by simp only [List.set_cons_succ, List.set_cons_zero]; rfl) ?_
            refine relPure Ext.refl rfl rfl rfl rfl (c := .agg (m.id.map bv).toArray) (fun w hw => exec_load_mid _ _ rfl g8 33 rfl (m.id.map bv) _ (GP.out _ _ (a8.below hw.drew)) Tryd.underlying25 rfl (by rw [List.length_map, m32.out]; kernel_rfl)) (by simp only [List.set_cons_succ, List.set_cons_zero]; rfl) ?_
            refine relPure Ext.refl rfl rfl rfl rfl (c := .pointer (some ⟨g12, 0, none⟩)) (fun w _ => by go_simp; first | done | rfl) (by simp only [List.set_cons_succ, List.set_cons_zero]; rfl) ?_
            refine relPure Ext.refl rfl rfl rfl rfl (c := .agg (m.id.map bv).toArray) (fun w hw => exec_load_mid _ _ rfl g12 0 rfl (m.id.map bv) _ (GIm.out _ _ (am.below hw.drew)) Tryd.underlying25 rfl (by rw [List.length_map, m32.out]; kernel_rfl)) (by simp only [List.set_cons_succ, List.set_cons_zero]; rfl) ?_
            refine relBin Ext.refl rfl rfl rfl rfl _ _ _ _ _ rfl (by conv => lhs; whnf) (by conv => lhs; whnf) (c := .bool false) (fun w => NP.out _ _ w) (by simp only [List.set_cons_succ, List.set_cons_zero]; rfl) ?_
            refine relPick Ext.refl rfl rfl rfl rfl _ _ _ rfl rfl (by conv => lhs; whnf) (by simp only [List.set_cons_succ, List.set_cons_zero]; rfl) ?_
            refine relMove Ext.refl rfl rfl rfl rfl _ (.inl rfl) (by conv => lhs; whnf) (by simp only [List.set_cons_succ, List.set_cons_zero]; rfl) ?_
            refine relPure Ext.refl rfl rfl rfl rfl (c := .pointer (some ⟨g8, 101, none⟩)) (fun w _ => by go_simp; first | done | rfl) (by simp only [List.set_cons_succ, List.set_cons_zero]; rfl) ?_
            refine relPure Ext.refl rfl rfl rfl rfl (c := .int .i64 (G : Int)) (fun w hw => by have := (a8.below hw.drew).cell 101 _ q101.out; go_simp; first | done | rfl) (by simp only [List.set_cons_succ, List.set_cons_zero]; rfl) ?_
            refine relPure Ext.refl rfl rfl rfl rfl (c := .pointer (some ⟨g12, 101, none⟩)) (fun w _ => by go_simp; first | done | rfl) (by simp only [List.set_cons_succ, List.set_cons_zero]; rfl) ?_
            refine relPure Ext.refl rfl rfl rfl rfl (c := .int .i64 (J : Int)) (fun w hw => by have := (am.below hw.drew).cell 101 _ m101.out; go_simp; first | done | rfl) (by simp only [List.set_cons_succ, List.set_cons_zero]; rfl) ?_
            refine relPure Ext.refl rfl rfl rfl rfl (c := .int .i64 (G : Int)) (fun w _ => by have := wJ; go_simp; first | done | rfl) (by simp only [List.set_cons_succ, List.set_cons_zero]; rfl) ?_
            refine relPure Ext.refl rfl rfl rfl rfl (c := .bool false) (fun w _ => by go_simp; first | done | rfl) (by simp only [List.set_cons_succ, List.set_cons_zero]; rfl) ?_
            refine relPick Ext.refl rfl rfl rfl rfl _ _ _ rfl rfl (by conv => lhs; whnf) (by simp only [List.set_cons_succ, List.set_cons_zero]; rfl) ?_
            refine relMove Ext.refl rfl rfl rfl rfl _ (.inl rfl) (by conv => lhs; whnf) (by simp only [List.set_cons_succ, List.set_cons_zero]; rfl) ?_
            refine relPure Ext.refl rfl rfl rfl rfl (c := .pointer (some ⟨g8, 102, none⟩)) (fun w _ => by go_simp; first | done | rfl) (by simp only [List.set_cons_succ, List.set_cons_zero]; rfl) ?_
            refine relPure Ext.refl rfl rfl rfl rfl (c := .agg (uc x.wrk).toArray) (fun w hw => exec_load_mid _ _ rfl g8 102 rfl (uc x.wrk) _ (GW.out _ _ (a8.below hw.drew)) Tryd.underlying39 rfl (by kernel_rfl)) (by simp only [List.set_cons_succ, List.set_cons_zero]; rfl) ?_
            refine relPure Ext.refl rfl rfl rfl rfl (c := .agg (uc x.wrk).toArray) (fun w hw => exec_loadAv (l := uc x.wrk) (a14.below hw.drew) _ _ rfl rfl _ 4 rfl Tryd.underlying39 rfl (by kernel_rfl)) (by simp only [List.set_cons_succ, List.set_cons_zero]; rfl) ?_
            refine relBin Ext.refl rfl rfl rfl rfl _ _ _ _ _ rfl (by conv => lhs; whnf) (by conv => lhs; whnf) (c := .bool false) (fun w => NU.out _ _ w) (by simp only [List.set_cons_succ, List.set_cons_zero]; rfl) ?_
            refine relPick Ext.refl rfl rfl rfl rfl _ _ _ rfl rfl (by conv => lhs; whnf) (by simp only [List.set_cons_succ, List.set_cons_zero]; rfl) ?_
            refine relMove Ext.refl rfl rfl rfl rfl _ (.inl rfl) (by conv => lhs; whnf) (by simp only [List.set_cons_succ, List.set_cons_zero]; rfl) ?_
            refine relMove Ext.refl rfl rfl rfl rfl _ (.inl rfl) (by conv => lhs; whnf) (by simp only [List.set_cons_succ, List.set_cons_zero]; rfl) ?_
            refine relMove Ext.refl rfl rfl rfl rfl _ (.inl rfl) (by conv => lhs; whnf) (by simp only [List.set_cons_succ, List.set_cons_zero]; rfl) ?_
            refine relPure Ext.refl rfl rfl rfl rfl (c := .int .i64 (L : Int)) (fun w _ => by go_simp; first | done | rfl) (by simp only [List.set_cons_succ, List.set_cons_zero]; rfl) ?_
            refine relPure Ext.refl rfl rfl rfl rfl (c := .int .i64 (J : Int)) (fun w _ => by have := wL2; go_simp; first | done | rfl) (by simp only [List.set_cons_succ, List.set_cons_zero]; rfl) ?_
            refine relPure Ext.refl rfl rfl rfl rfl (c := .pointer (some ⟨bl, ol + J, none⟩)) (fun w _ => by have := gJ0; have := gJ1; go_simp; first | done | rfl) (by simp only [List.set_cons_succ, List.set_cons_zero]; rfl) ?_
            refine relPure Ext.refl rfl rfl rfl rfl (c := .int .i64 (p : Int)) (fun w hw => by have := cJ.out _ hw.drew; go_simp; first | done | rfl) (by simp only [List.set_cons_succ, List.set_cons_zero]; rfl) ?_
            refine relPure Ext.refl rfl rfl rfl rfl (c := .pointer (some ⟨g8, 100, none⟩)) (fun w _ => by go_simp; first | done | rfl) (by simp only [List.set_cons_succ, List.set_cons_zero]; rfl) ?_
            refine relPure Ext.refl rfl rfl rfl rfl (c := .int .i64 (p : Int)) (fun w hw => by have := (a8.below hw.drew).cell 100 _ q100.out; go_simp; first | done | rfl) (by simp only [List.set_cons_succ, List.set_cons_zero]; rfl) ?_
            refine relPure Ext.refl rfl rfl rfl rfl (c := .bool false) (fun w _ => by go_simp; first | done | rfl) (by simp only [List.set_cons_succ, List.set_cons_zero]; rfl) ?_
            refine relPick Ext.refl rfl rfl rfl rfl _ _ _ rfl rfl (by conv => lhs; whnf) (by simp only [List.set_cons_succ, List.set_cons_zero]; rfl) ?_
            refine relMove Ext.refl rfl rfl rfl rfl _ (.inl rfl) (by conv => lhs; whnf) (by simp only [List.set_cons_succ, List.set_cons_zero]; rfl) ?_
            refine relPure Ext.refl rfl rfl rfl rfl (c := .pointer (some ⟨g8, 100, none⟩)) (fun w _ => by go_simp; first | done | rfl) (by simp only [List.set_cons_succ, List.set_cons_zero]; rfl) ?_
            refine relPure Ext.refl rfl rfl rfl rfl (c := .int .i64 (p : Int)) (fun w hw => by have := (a8.below hw.drew).cell 100 _ q100.out; go_simp; first | done | rfl) (by simp only [List.set_cons_succ, List.set_cons_zero]; rfl) ?_
            refine relMove Ext.refl rfl rfl rfl rfl _ (.inl rfl) (by conv => lhs; whnf) (by simp only [List.set_cons_succ, List.set_cons_zero]; rfl) ?_
            refine relPure Ext.refl rfl rfl rfl rfl (c := .bool false) (fun w _ => by have := tpi; have := tpi2; go_simp; first | done | rfl) (by simp only [List.set_cons_succ, List.set_cons_zero]; rfl) ?_
            refine relPick Ext.refl rfl rfl rfl rfl _ _ _ rfl rfl (by conv => lhs; whnf) (by simp only [List.set_cons_succ, List.set_cons_zero]; rfl) ?_
            refine relEnd fun w20 hw20 => fill_end ?_
            have bi20 := bi19.trans (hw20.drew.mono bi19.size)
            clear a8 am a14 bi19 bw19 tr19 cJ hw20
            go_wp2
            refine ⟨⟨i + 1, by omega, by go_num, bi20⟩, ?_⟩
            simp [intOf]; omega
        · obtain rfl : i = N := by omega
          have u1 : decide ((i : Int) < (i : Int)) = false := by simp
          clear bi
          go_wp2_with (go_at_call 15; refine (HL.out _ tri).mono ?_; rintro e w6 ⟨rfl, rfl⟩)
          go_ret
          exact ⟨rfl, bwi⟩
end Go.Proofs.YtijnkieakenipaaDoor
