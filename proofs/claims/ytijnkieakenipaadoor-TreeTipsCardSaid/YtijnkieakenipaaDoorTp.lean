/- The law TreeTips: the walk. -/
import Derived.Test.YtijnkieakenipaaDoorTb
namespace Go.Proofs.YtijnkieakenipaaDoor
open Go.RowKit
attribute [local go_sem] zvN zvH
attribute [local simp] zcN_ne zcH_ne
theorem tips_le (ns : List Nd) : (mTips ns).length ≤ ns.length := by
  rw [mTips]; exact Nat.le_trans (List.length_filter_le _ _) (by rw [List.length_range]; exact Nat.le_refl _)
theorem tips_pos {ns : List Nd} (ok : TOk ns) : decide (0 < (mTips ns).length) = decide (0 < ns.length) := by
  rw [decide_eq_decide]
  have h1 := tips_le ns
  refine ⟨fun h => by omega, fun h => ?_⟩
  obtain ⟨t, ht, _⟩ := leads ok (ns.length + 1) 0 (by omega) h
  exact List.length_pos_of_mem ht
theorem tips_lt {ns : List Nd} {t : Nat} (h : t ∈ mTips ns) : t < ns.length := by
  rw [mTips, List.mem_filter, List.mem_range] at h; exact h.1
theorem line_in {ns : List Nd} {z : Nat} (hz : z < ns.length) : lineL ns (z : Int) = mLine ns z := by
  rw [lineL, if_pos ⟨by omega, by omega⟩]; rfl
theorem line_has {ns : List Nd} {z c : Nat} (h : tIn ns c z) : ∃ q, q < (mLine ns z).length ∧ (mLine ns z)[q]? = some c := by
  obtain ⟨d, h1, h2⟩ := h
  refine ⟨tHgt ns z - d, by rw [mLine_length]; omega, ?_⟩
  rw [mLine_at ns z _ (by omega), show tHgt ns z - (tHgt ns z - d) = d by omega, h2]
theorem line_lt {ns : List Nd} (ok : TOk ns) {z q c : Nat} (hz : z < ns.length) (h : (mLine ns z)[q]? = some c) : c < ns.length := by
  have hq : q < tHgt ns z + 1 := by rw [← mLine_length]; exact (List.getElem?_eq_some_iff.1 h).1
  rw [mLine_at ns z q (by omega)] at h
  obtain rfl := Option.some.inj h
  exact (ok.anc hz _ (by omega)).1
/-- what is seen so far: of each tip ahead of j all that it stands on -/
def SeenT (ns : List Nd) (sb : List Bool) (j : Nat) : Prop := ∀ t ∈ (mTips ns).take j, ∀ c, tIn ns c t → sb[c]? = some true
def SeenL (ns : List Nd) (sb : List Bool) (z q : Nat) : Prop := ∀ p, p < q → ∀ c, (mLine ns z)[p]? = some c → sb[c]? = some true
theorem set_true {sb : List Bool} {C c : Nat} (hC : C < sb.length) (h : sb[c]? = some true) : (sb.set C true)[c]? = some true := by
  rw [List.getElem?_set]
  split
  · rename_i e; subst e; simp
  · exact h
theorem SeenT.set {ns : List Nd} {sb : List Bool} {j C : Nat} (h : SeenT ns sb j) (hC : C < sb.length) : SeenT ns (sb.set C true) j := fun t ht c hc => set_true hC (h t ht c hc)
theorem SeenL.set {ns : List Nd} {sb : List Bool} {z q C : Nat} (h : SeenL ns sb z q) (hC : C < sb.length) (hq : (mLine ns z)[q]? = some C) : SeenL ns (sb.set C true) z (q + 1) := fun p hp c hc => by
  rcases Nat.lt_or_ge p q with h1 | h1
  · exact set_true hC (h p h1 c hc)
  · obtain rfl : p = q := by omega
    obtain rfl : C = c := by rw [hq] at hc; exact Option.some.inj hc
    simp [hC]
theorem SeenT.next {ns : List Nd} {sb : List Bool} {j z : Nat} (h : SeenT ns sb j) (hz : (mTips ns)[j]? = some z) (k : SeenL ns sb z (mLine ns z).length) : SeenT ns sb (j + 1) := fun t ht c hc => by
  rw [List.take_add_one, hz] at ht
  rcases List.mem_append.1 ht with h1 | h1
  · exact h t h1 c hc
  · obtain rfl : t = z := by simpa using h1
    obtain ⟨q, q1, q2⟩ := line_has hc
    exact k q q1 c q2
theorem SeenT.all {ns : List Nd} (ok : TOk ns) {sb : List Bool} (h : SeenT ns sb (mTips ns).length) {i : Nat} (hi : i < ns.length) : sb[i]? = some true := by
  obtain ⟨t, ht, h2⟩ := leads ok (ns.length + 1) i (by omega) hi
  exact h t (by rw [List.take_of_length_le (Nat.le_refl _)]; exact ht) i h2
theorem ints_at {w : World} {A : Option Addr} {l : List Nat} {j z : Nat} (r : Rd w A (l.map iv)) (h : l[j]? = some z) : ∃ b off, A = some ⟨b, off, none⟩ ∧ ∀ (j z : Nat), l[j]? = some z → w.cell? ⟨b, off + j, none⟩ = some (.int .i64 (z : Int)) := by
  rcases r with r | ⟨b, off, h1, h2⟩
  · rw [List.map_eq_nil_iff] at r; rw [r] at h; cases h
  · exact ⟨b, off, h1, fun j z h => h2 j _ (by rw [List.getElem?_map, h]; rfl)⟩
theorem map_set {α β : Type} (f : α → β) (l : List α) (i : Nat) (x : α) : (l.map f).set i (f x) = (l.set i x).map f := by simp
/-- a row of numbers is no block of truths -/
theorem ints_ne {w : World} {g b off : Nat} {sb : List Bool} {z : Int} (a : Av w g 4 (sb.map Value.bool)) (h : w.cell? ⟨b, off, none⟩ = some (.int .i64 z)) : b ≠ g := by
  rintro rfl
  by_cases ho : off < sb.length
  · have := a.cell off (.bool sb[off]) (by simp [ho])
    rw [this] at h
    cases h
  · have e : w.cell? ⟨b, off, none⟩ = (sb.map Value.bool)[off]? := by
      have := a
      unfold Av at this
      simp [World.cell?, this]
    rw [e, List.getElem?_eq_none (by simpa using ho)] at h
    cases h
set_option maxRecDepth 100000 in
set_option maxHeartbeats 8000000 in
theorem law_TreeTips (l : List Hd) (A : Option Addr) (n c : Nat) (hn : l.length = n) (w : World) (ht : Tabs w) (hr : RdHds w A l) :
    Calls Tryd.prog 7 #[.slice A n c] w fun e w' => e = .returned (.bool true) ∧ Below w.heap.size w w' := by
  have HAW := Lib.hid (awake15 w ht)
  replace hn := Lib.hid hn
  by_cases hbig : 40 < n
  · have t0 : decide ((40 : Int) < (n : Int)) = true := by simp; omega
    have t0' : decide (40 < n) = true := by simpa using hbig
    clear hr
    go_enter Tryd.func7, Tryd.ntmps7
    go_wp2_with (go_at_call 9; refine (HAW.out).mono ?_; rintro e w1 ⟨rfl, b1⟩)
    go_ret
    exact ⟨rfl, b1⟩
  have t0 : decide ((40 : Int) < (n : Int)) = false := by simp; omega
  have t0' : decide (40 < n) = false := by simpa using hbig
  go_enter Tryd.func7, Tryd.ntmps7
  go_upto_region 2 with (go_at_call 9; refine (HAW.out).mono ?_; rintro e w1 ⟨rfl, b1⟩)
  have HN := Lib.hid (TNew 60 w1)
  obtain ⟨Bs, hBs⟩ : ∃ B, B = w1.heap.size := ⟨_, rfl⟩
  have hBw : w.heap.size ≤ Bs := by rw [hBs]; exact b1.size
  have e60 : clampN 60 = 60 := rfl
  rw [e60, ← hBs] at HN
  replace hBs := Lib.hid hBs
  clear e60
  go_upto_region 5 with (go_at_call 10; refine (HN.out).mono ?_; rintro e w2 ⟨⟨R, M, rfl, T2⟩, b2⟩)
  have b02 : Below w.heap.size w w2 := b1.trans (b2.mono hBw)
  clear b1 b2
  go_upto_region 6 with fail
  go_loopw [5] (fun iv wr => ∃ (k : Nat) (v : Value), k ≤ n ∧ iv = .int .i64 (k : Int) ∧ TAt wr Bs R 60 v M (mAll 60 (l.take k)) ∧ Below w.heap.size w wr) (fun iv _ => n - (intOf iv).toNat)
  case atStart => exact ⟨0, _, by omega, rfl, T2, b02⟩
  case round =>
    clear T2 b02
    obtain ⟨k, v, hk, rfl, T, bw⟩ := hrel
    by_cases hlt : k < n
    · have t1 : decide ((k : Int) < (n : Int)) = true := by simp; omega
      obtain ⟨x, hx⟩ : ∃ x, l[k]? = some x := ⟨_, List.getElem?_eq_getElem (by rw [hn.out]; exact hlt)⟩
      obtain ⟨b, off, rfl⟩ := hr.adr (by rw [hn.out]; omega)
      obtain ⟨_, xok⟩ := (hr.below bw).nth k x hx
      have hnx := Lib.hid (mAll_take 60 l k x hx)
      have x68 := Lib.hid (hdc_length xok)
      have m0 : (0 : Int) ≤ (k : Int) := by omega
      have m1 : (k : Int) < (n : Int) := by omega
      obtain ⟨ms, hms⟩ : ∃ ms, ms = mAll 60 (l.take k) := ⟨_, rfl⟩
      rw [← hms] at T hnx
      have okm : TOk ms := T.ok
      have hml : ms.length ≤ k := by
        have := mAll_len 60 (l.take k)
        rw [← hms, List.length_take] at this
        omega
      obtain ⟨a1, a2, a3⟩ := tips_add (most := 60) okm x
      have hml2 := tips_le ms
      have HT1 := Lib.hid (fun (w' : World) (q : TRef w' (.pointer (some ⟨R, 0, none⟩)) ms) => TTips _ ms okm w' q)
      have HT2 := Lib.hid (fun (w' : World) (q : TRef w' (.pointer (some ⟨R, 0, none⟩)) (mAdd 60 ms x).1) => TTips _ (mAdd 60 ms x).1 (mAdd_ok okm xok) w' q)
      have tr := T.ref
      replace hx := Lib.hid hx
      replace hms := Lib.hid hms
      go_upto_region 9 with (go_at_call 21; refine (HT1.out _ tr).mono ?_; rintro e wu ⟨⟨_, rfl, Awu, nwu, cwu, rfl, lwu, rwu⟩, bu⟩)
      have T1 := T.below bu
      have bwu := bw.trans (bu.mono bw.size)
      have rx2 := Lib.hid ((hr.below bwu).nth k x hx.out).1
      have hBr : Bs ≤ wu.heap.size := Nat.le_trans T1.hR (Nat.le_of_lt T1.av.lt)
      have HA := Lib.hid (TAdd Bs R 60 v M ms x xok wu (ht.below bwu) T1 hBr)
      clear T bw tr bu rwu
      go_upto_region 10 with (first
        | ((with_reducible refine wpList_loadMF 27 (hdc x) rx2.out ?_ _ Tryd.underlying27 ?_ ?_ ?_); rfl; rfl; (rw [x68.out]; kernel_rfl))
        | (go_at_call 11; refine (HA.out).mono ?_; rintro e w5 ⟨rfl, ⟨v5, T5⟩, b5, K5⟩))
      have b05 := bwu.trans (b5.mono hBw)
      have tr5 := T5.ref
      clear bwu b5 K5 T1 HA rx2
      go_upto_region 11 with (go_at_call 21; refine (HT2.out _ tr5).mono ?_; rintro e wv ⟨⟨_, rfl, Awv, nwv, cwv, rfl, lwv, rwv⟩, bv⟩)
      have T6 := T5.below bv
      rw [← hnx.out] at T6
      have b06 := b05.trans (bv.mono b05.size)
      clear T5 tr5 b05 rwv bv
      rw [lwu] at a1 a2 a3 hml2
      rw [lwv] at a1 a2 a3
      obtain ⟨E, hE⟩ : ∃ E, E = (mAdd 60 ms x).2.2 := ⟨_, rfl⟩
      obtain ⟨I, hI⟩ : ∃ I, I = (mAdd 60 ms x).2.1 := ⟨_, rfl⟩
      rw [← hE] at a3
      rw [← hE, ← hI]
      have s1 : decide ((nwv : Int) < (nwu : Int)) = false := by simp; omega
      have w1n : IntKind.i64.wrap ((nwu : Int) + 1) = (nwu : Int) + 1 := by rw [IntKind.wrap_i64]; omega
      have s2 : decide ((nwu : Int) + 1 < (nwv : Int)) = false := by simp; omega
      replace hE := Lib.hid hE
      replace hI := Lib.hid hI
      replace T6 := Lib.hid T6
      replace b06 := Lib.hid b06
      by_cases hE0 : E = 0
      · subst hE0
        clear a3
        go_wp2
        refine ⟨⟨k + 1, v5, by omega, by go_num, T6.out, b06.out⟩, ?_⟩
        simp [intOf]; omega
      · have s3 : ((E : Int) != 0) = true := by simp; omega
        have s4 : ((nwv : Int) != (nwu : Int)) = false := by have := a3 hE0; simp; omega
        clear a3
        go_wp2
        refine ⟨⟨k + 1, v5, by omega, by go_num, T6.out, b06.out⟩, ?_⟩
        simp [intOf]; omega
    · obtain rfl : k = n := by omega
      have t1 : decide ((k : Int) < (k : Int)) = false := by simp
      have htk : l.take k = l := List.take_of_length_le (by rw [hn.out]; exact Nat.le_refl _)
      rw [htk] at T
      obtain ⟨ns, hns⟩ : ∃ ns, ns = mAll 60 l := ⟨_, rfl⟩
      rw [← hns] at T
      have ok : TOk ns := T.ok
      have hnl : ns.length ≤ k := by rw [hns, ← hn.out]; exact mAll_len 60 l
      clear htk hns
      obtain ⟨w3, hw3⟩ : ∃ w3, w3 = wr := ⟨_, rfl⟩
      rw [← hw3] at T bw ⊢
      clear hw3
      obtain ⟨N, hN⟩ : ∃ N, N = ns.length := ⟨_, rfl⟩
      have HL := fun (w' : World) (q : TRef w' (.pointer (some ⟨R, 0, none⟩)) ns) => TLen _ ns w' q
      rw [← hN] at HL
      have HT := Lib.hid (fun (w' : World) (q : TRef w' (.pointer (some ⟨R, 0, none⟩)) ns) => TTips _ ns ok w' q)
      have tr3 := T.ref
      have tpos := tips_pos ok
      have tle := tips_le ns
      rw [← hN] at tpos tle hnl
      replace hN := Lib.hid hN
      replace HL := Lib.hid HL
      clear T
      go_upto_region 14 with (go_at_call 21; refine (HT.out _ tr3).mono ?_; rintro e ws ⟨⟨_, rfl, Aws, nws, cws, rfl, lws, rws⟩, b3s⟩)
      rw [lws] at tpos tle
      have tr := tr3.below b3s
      have bws := bw.trans (b3s.mono bw.size)
      clear tr3 bw b3s
      obtain ⟨K, hK⟩ : ∃ K, K = k + 1 := ⟨_, rfl⟩
      have hK41 : K ≤ 41 := by omega
      have wk : IntKind.i64.wrap ((k : Int) + 1) = (K : Int) := by rw [IntKind.wrap_i64]; omega
      have MK := make_boolsT K (by omega) ws
      obtain ⟨g, hg⟩ : ∃ g, g = ws.heap.size := ⟨_, rfl⟩
      rw [← hg] at MK
      have lC : (List.replicate K (Value.bool false)) = (List.replicate K false).map Value.bool := by simp
      rw [lC] at MK
      have aG : Av (ws.alloc (.cells ((List.replicate K false).map Value.bool).toArray 4)) g 4 ((List.replicate K false).map Value.bool) := by rw [hg]; exact heap_alloc_new _ _
      have b4 : Below ws.heap.size ws (ws.alloc (.cells ((List.replicate K false).map Value.bool).toArray 4)) := (Below.refl _ _).alloc (Nat.le_refl _) _
      obtain ⟨w4, hw4⟩ : ∃ w4, w4 = ws.alloc (.cells ((List.replicate K false).map Value.bool).toArray 4) := ⟨_, rfl⟩
      rw [← hw4] at MK aG b4
      replace hw4 := Lib.hid hw4
      replace hK := Lib.hid hK
      clear lC
      go_upto_region 16 with fail
      rw [hg] at aG
      go_loopw [12] (fun iv wr => ∃ j : Nat, j ≤ nws ∧ iv = .int .i64 (j : Int) ∧ Below ws.heap.size ws wr ∧ ∃ sb : List Bool, sb.length = K ∧ Av wr ws.heap.size 4 (sb.map Value.bool) ∧ SeenT ns sb j) (fun iv _ => nws - (intOf iv).toNat)
      case atStart => exact ⟨0, by omega, rfl, b4, _, by simp, aG, fun t ht => by simp at ht⟩
      case round =>
        clear aG b4 MK wk
        obtain ⟨j, hj, rfl, bj, sb, hsb, ag, hse⟩ := hrel
        by_cases hjn : j < nws
        · have v1 : decide ((j : Int) < (nws : Int)) = true := by simp; omega
          obtain ⟨z, hz⟩ : ∃ z, (mTips ns)[j]? = some z := ⟨_, List.getElem?_eq_getElem (by rw [lws]; exact hjn)⟩
          obtain ⟨bt, ot, rfl, ct⟩ := ints_at (rws.below bj) hz
          have cj := ct j z hz
          have hzN := tips_lt (List.mem_of_getElem? hz)
          have HI := fun (w' : World) (q : TRef w' (.pointer (some ⟨R, 0, none⟩)) ns) => TLine _ ns ok (z : Int) (by have := hN.out; omega) w' q
          rw [line_in hzN] at HI
          have j0 : (0 : Int) ≤ (j : Int) := by omega
          have j1 : (j : Int) < (nws : Int) := by omega
          have trj := tr.below bj
          replace HI := Lib.hid HI
          replace hz := Lib.hid hz
          replace hse := Lib.hid hse
          clear ct
          go_upto_region 19 with (go_at_call 17; refine (HI.out _ trj).mono ?_; rintro e wl ⟨⟨_, rfl, Al, nl, cl0, rfl, hll, rl⟩, bl0⟩)
          have al := ag.below bl0
          have bl := bj.trans (bl0.mono bj.size)
          clear ag trj bj bl0 cj
          have hnlK : nl ≤ K := by
            have h1 := ok.hgt_le hzN
            have h2 := hK.out
            have h3 := hN.out
            rw [← hll, mLine_length]; omega
          go_upto_region 20 with fail
          go_loopw [14] (fun iv wr => ∃ q : Nat, q ≤ nl ∧ iv = .int .i64 (q : Int) ∧ Below ws.heap.size ws wr ∧ Fr (fun k => k = ws.heap.size) wl wr ∧ ∃ sb : List Bool, sb.length = K ∧ Av wr ws.heap.size 4 (sb.map Value.bool) ∧ SeenT ns sb j ∧ SeenL ns sb z q) (fun iv _ => nl - (intOf iv).toNat)
          case atStart => exact ⟨0, by omega, rfl, bl, Fr.refl _ _, sb, hsb, al, hse.out, fun p hp => by omega⟩
          case round =>
            obtain ⟨q, hq, rfl, bq, fq, sb, hsb, ag, hse, hsl⟩ := hrel
            by_cases hqn : q < nl
            · have y1 : decide ((q : Int) < (nl : Int)) = true := by simp; omega
              obtain ⟨C, hC⟩ : ∃ C, (mLine ns z)[q]? = some C := ⟨_, List.getElem?_eq_getElem (by rw [hll]; exact hqn)⟩
              have hCN := line_lt ok hzN hC
              obtain ⟨bl1, ol, rfl, ctl⟩ := ints_at rl hC
              have clq := ctl q C hC
              have hbg := ints_ne al clq
              have rq := fq.rd rl (by rintro a ha; injection ha with ha; subst ha; exact hbg)
              have cl : ∀ w', Below wr.heap.size wr w' → w'.cell? ⟨bl1, ol + q, none⟩ = some (.int .i64 (C : Int)) := fun w' hE => by
                obtain ⟨b2, o2, e2, f2⟩ := ints_at (rq.below hE) hC
                injection e2 with e2
                injection e2 with e3 e4
                subst e3 e4
                exact f2 q C hC
              have trq := tr.below bq
              have q0 : (0 : Int) ≤ (q : Int) := by omega
              have q1 : (q : Int) < (nl : Int) := by omega
              have C0 : decide ((C : Int) < 0) = false := decide_eq_false (by omega)
              have hCN2 : C < N := by have := hN.out; omega
              have C2 : decide ((N : Int) ≤ (C : Int)) = false := decide_eq_false (by omega)
              have hCs : C < sb.length := by have := hN.out; have := hK.out; omega
              replace hse := Lib.hid hse
              replace hsl := Lib.hid hsl
              replace hC := Lib.hid hC
              replace cl := Lib.hid cl
              clear ctl clq hbg rq
              go_upto_region 22 with fail
              refine wp_region_rel [] Ext (by kernel_rfl) (by kernel_rfl) (by kernel_rfl) Ext.refl Ext.trans (by intro p hp; cases hp) ?_
              refine relMove Ext.refl rfl rfl rfl rfl _ (.inl rfl) (by conv => lhs; whnf) (by simp only [List.set_cons_succ, List.set_cons_zero]; rfl) ?_
              refine relMove Ext.refl rfl rfl rfl rfl _ (.inl rfl) (by conv => lhs; whnf) (by simp only [List.set_cons_succ, List.set_cons_zero]; rfl) ?_
              refine relPure Ext.refl rfl rfl rfl rfl (c := .pointer (some ⟨bl1, ol + q, none⟩)) (fun w _ => by have := q0; have := q1; go_simp; first | done | rfl) (by simp only [List.set_cons_succ, List.set_cons_zero]; rfl) ?_
              refine relPure Ext.refl rfl rfl rfl rfl (c := .int .i64 (C : Int)) (fun w hw => by have := cl.out _ hw.drew; go_simp; first | done | rfl) (by simp only [List.set_cons_succ, List.set_cons_zero]; rfl) ?_
              refine relPure Ext.refl rfl rfl rfl rfl (c := .bool false) (fun w _ => by have := C0; go_simp; first | done | rfl) (by simp only [List.set_cons_succ, List.set_cons_zero]; rfl) ?_
              refine relMove Ext.refl rfl rfl rfl rfl _ (.inl rfl) (by conv => lhs; whnf) (by simp only [List.set_cons_succ, List.set_cons_zero]; rfl) ?_
              refine relMove Ext.refl rfl rfl rfl rfl _ (.inl rfl) (by conv => lhs; whnf) (by simp only [List.set_cons_succ, List.set_cons_zero]; rfl) ?_
              refine relMove Ext.refl rfl rfl rfl rfl _ (.inl rfl) (by conv => lhs; whnf) (by simp only [List.set_cons_succ, List.set_cons_zero]; rfl) ?_
              refine relPure Ext.refl rfl rfl rfl rfl (c := .pointer (some ⟨bl1, ol + q, none⟩)) (fun w _ => by have := q0; have := q1; go_simp; first | done | rfl) (by simp only [List.set_cons_succ, List.set_cons_zero]; rfl) ?_
              refine relPure Ext.refl rfl rfl rfl rfl (c := .int .i64 (C : Int)) (fun w hw => by have := cl.out _ hw.drew; go_simp; first | done | rfl) (by simp only [List.set_cons_succ, List.set_cons_zero]; rfl) ?_
              refine relMove Ext.refl rfl rfl rfl rfl _ (.inl rfl) (by conv => lhs; whnf) (by simp only [List.set_cons_succ, List.set_cons_zero]; rfl) ?_
              refine relCall1 rfl rfl rfl rfl (c := .int .i64 (N : Int)) 15 #[.pointer (some ⟨R, 0, none⟩)] (fun w => by go_simp) (fun w hw => (HL.out _ (trq.below hw.drew)).mono ?_) (by simp only [List.set_cons_succ, List.set_cons_zero]; rfl) ?_
              · rintro e w' ⟨rfl, rfl⟩
                exact ⟨rfl, Below.refl _ _⟩
              refine relPure Ext.refl rfl rfl rfl rfl (c := .bool false) (fun w _ => by have := C2; have := hCN2; go_simp; first | done | rfl) (by simp only [List.set_cons_succ, List.set_cons_zero]; rfl) ?_
              refine relPick Ext.refl rfl rfl rfl rfl _ _ _ rfl rfl (by conv => lhs; whnf) (by simp only [List.set_cons_succ, List.set_cons_zero]; rfl) ?_
              refine relEnd fun w6 hw6 => fill_end ?_
              have b6 := bq.trans (hw6.drew.mono bq.size)
              have ag6 := ag.below hw6.drew
              have f6 := fq.trans (Below.fr hw6.drew)
              have cl6 := cl.out _ hw6.drew
              have p0 : (0 : Int) ≤ (C : Int) := by omega
              have p1 : (C : Int) < (K : Int) := by omega
              have hCs2 : C < (sb.map Value.bool).length := by simpa using hCs
              clear ag bq fq trq C2 bl al
              go_upto_region 21 with ((with_reducible refine wpList_storeB1 4 ag6 hCs2 true ?_ ?_ size_boolT ?_); rfl; rfl; intro w7 a7 f7)
              rw [map_set Value.bool sb C true] at a7
              have b7 := b6.trans (f7.below (B := ws.heap.size) (fun t ht => by omega) b6.size)
              have f8 := f6.trans f7
              have h1 := hse.out.set hCs
              have h2 := hsl.out.set hCs hC.out
              have h3 : (sb.set C true).length = K := by rw [List.length_set]; exact hsb
              obtain ⟨sb2, hs2⟩ : ∃ s, s = sb.set C true := ⟨_, rfl⟩
              rw [← hs2] at a7 h1 h2 h3
              replace a7 := Lib.hid a7
              replace f8 := Lib.hid f8
              replace h1 := Lib.hid h1
              replace h2 := Lib.hid h2
              clear f7 ag6 b6 f6 cl6 hs2 hCs2 hse hsl
              go_wp2
              refine ⟨⟨q + 1, by omega, by go_num, b7, f8.out, sb2, h3, a7.out, h1.out, h2.out⟩, ?_⟩
              simp [intOf]; omega
            · obtain rfl : q = nl := by omega
              have y1 : decide ((q : Int) < (q : Int)) = false := by simp
              have hnx := SeenT.next hse hz.out (by rw [hll]; exact hsl)
              replace hnx := Lib.hid hnx
              replace ag := Lib.hid ag
              clear hse hsl al rl fq bl
              go_wp2
              refine ⟨⟨j + 1, by omega, by go_num, bq, sb, hsb, ag.out, hnx.out⟩, ?_⟩
              simp [intOf]; omega
        · obtain rfl : j = nws := by omega
          have v1 : decide ((j : Int) < (j : Int)) = false := by simp
          have hall : ∀ i, i < N → sb[i]? = some true := fun i hi => by
            rw [← lws] at hse
            exact hse.all ok (by rw [← hN.out]; exact hi)
          replace hall := Lib.hid hall
          obtain ⟨wx, hwx⟩ : ∃ wx, wx = wr := ⟨_, rfl⟩
          rw [← hwx] at bj ag ⊢
          clear hwx hse
          go_upto_region 26 with fail
          go_loopw [15] (fun iv wr => ∃ i : Nat, i ≤ N ∧ iv = .int .i64 (i : Int) ∧ Below wx.heap.size wx wr) (fun iv _ => N - (intOf iv).toNat)
          case atStart => exact ⟨0, by omega, rfl, Below.refl _ _⟩
          case round =>
            obtain ⟨i, hi, rfl, bi⟩ := hrel
            have tri := (tr.below bj).below bi
            have bwi := (bws.trans (bj.mono bws.size)).trans (bi.mono (bws.trans (bj.mono bws.size)).size)
            by_cases hiN : i < N
            · have z1 : decide ((i : Int) < (N : Int)) = true := by simp; omega
              have ci := (ag.below bi).cell i (.bool true) (by rw [List.getElem?_map, hall.out i hiN]; rfl)
              have i0 : (0 : Int) ≤ (i : Int) := by omega
              have i1 : (i : Int) < (K : Int) := by have := hK.out; omega
              clear ag bj bwi
              go_wp2_with (go_at_call 15; refine (HL.out _ tri).mono ?_; rintro e w6 ⟨rfl, rfl⟩)
              refine ⟨⟨i + 1, by omega, by go_num, bi⟩, ?_⟩
              simp [intOf]; omega
            · obtain rfl : i = N := by omega
              have z1 : decide ((i : Int) < (i : Int)) = false := by simp
              clear ag bj bi
              by_cases h0 : 0 < i
              · have z2 : decide ((0 : Int) < (i : Int)) = true := by simpa using h0
                have z2' : decide (0 < i) = true := by simpa using h0
                have z3' : decide (0 < j) = true := by rw [tpos]; exact z2'
                have z3 : decide ((0 : Int) < (j : Int)) = true := by simpa using z3'
                go_wp2_with (go_at_call 15; refine (HL.out _ tri).mono ?_; rintro e w6 ⟨rfl, rfl⟩)
                go_ret
                exact ⟨rfl, bwi⟩
              · have z2 : decide ((0 : Int) < (i : Int)) = false := by simp; omega
                have z2' : decide (0 < i) = false := by simpa using h0
                have z3' : decide (0 < j) = false := by rw [tpos]; exact z2'
                have z3 : decide ((0 : Int) < (j : Int)) = false := by simpa using z3'
                go_wp2_with (go_at_call 15; refine (HL.out _ tri).mono ?_; rintro e w6 ⟨rfl, rfl⟩)
                go_ret
                exact ⟨rfl, bwi⟩
end Go.Proofs.YtijnkieakenipaaDoor
