/- The law TreeCommon: the walk. -/
import Derived.Test.YtijnkieakenipaaDoorTb
import Derived.Test.YtijnkieakenipaaDoorBt
namespace Go.Proofs.YtijnkieakenipaaDoor
open Go.RowKit
attribute [local go_sem] zvN zvH
attribute [local simp] zcN_ne zcH_ne
theorem com_law {ns : List Nd} (ok : TOk ns) (a b : Nat) (ha : a < ns.length) (hb : b < ns.length) : ∃ (C G : Nat) (x : Nd) (z1 z2 : Int) (q1 q2 : Bool), comV ns a b = .tuple #[.int .i64 (C : Int), .bool true] ∧ comV ns b a = .tuple #[.int .i64 (C : Int), .bool true] ∧ C < ns.length ∧ ns[C]? = some x ∧ x.hgt = G ∧
    aboveV ns a (G : Int) = .tuple #[.int .i64 (C : Int), .bool true] ∧ aboveV ns b (G : Int) = .tuple #[.int .i64 (C : Int), .bool true] ∧
    aboveV ns a ((G : Int) + 1) = .tuple #[.int .i64 z1, .bool q1] ∧ aboveV ns b ((G : Int) + 1) = .tuple #[.int .i64 z2, .bool q2] ∧ (q1 = true → q2 = true → (z1 != z2) = true) ∧ G < ns.length := by
  obtain ⟨s1, s2, s3⟩ := mCom_spec ok (a + b + 1) a b (by omega) ha hb
  obtain ⟨C, hC⟩ : ∃ C, C = mCom ns (a + b + 1) a b := ⟨_, rfl⟩
  rw [← hC] at s1 s2 s3
  obtain ⟨i1, i2, i3⟩ := tIn_le ok ha s1
  obtain ⟨_, _, i4⟩ := tIn_le ok hb s2
  obtain ⟨x, hx⟩ : ∃ x, ns[C]? = some x := ⟨_, List.getElem?_eq_getElem i2⟩
  have hG := tHgt_at hx
  have u1 := tIn_above ok ha s1
  have u2 := tIn_above ok hb s2
  have hgl := ok.hgt_le i2
  have e1 : comV ns a b = .tuple #[.int .i64 (C : Int), .bool true] := by
    rw [comV, if_pos ⟨by omega, by omega, by omega, by omega⟩]; simp only [Int.toNat_natCast]; rw [← hC]
  have e2 : comV ns b a = .tuple #[.int .i64 (C : Int), .bool true] := by
    rw [comV, if_pos ⟨by omega, by omega, by omega, by omega⟩]; simp only [Int.toNat_natCast]
    rw [mCom_comm ok (b + a + 1) (a + b + 1) b a (by omega) (by omega) hb ha, ← hC]
  have ab : ∀ i : Nat, i < ns.length → tHgt ns C ≤ tHgt ns i → tAnc ns i (tHgt ns i - tHgt ns C) = C → aboveV ns i ((tHgt ns C : Nat) : Int) = .tuple #[.int .i64 (C : Int), .bool true] := fun i h1 h2 h3 => by
    rw [aboveV]; simp only [Int.toNat_natCast]; rw [if_pos ⟨by omega, by omega, by omega, by omega⟩, h3]
  have nx : ∀ i : Nat, i < ns.length → ∃ (z : Int) (q : Bool), aboveV ns i ((tHgt ns C : Int) + 1) = .tuple #[.int .i64 z, .bool q] ∧ (q = true → tHgt ns C + 1 ≤ tHgt ns i ∧ z = (tAnc ns i (tHgt ns i - (tHgt ns C + 1)) : Nat)) := fun i h1 => by
    rw [aboveV]
    simp only [Int.toNat_natCast]
    split
    · rename_i hc
      refine ⟨_, _, rfl, fun _ => ⟨by omega, ?_⟩⟩
      rw [show ((tHgt ns C : Int) + 1).toNat = tHgt ns C + 1 by omega]
    · exact ⟨_, _, rfl, fun h => by cases h⟩
  obtain ⟨z1, q1, a1, f1⟩ := nx a ha
  obtain ⟨z2, q2, a2, f2⟩ := nx b hb
  refine ⟨C, tHgt ns C, x, z1, z2, q1, q2, e1, e2, i2, hx, hG.symm, ab a ha i3 u1, ab b hb i4 u2, a1, a2, fun g1 g2 => ?_, by omega⟩
  obtain ⟨p1, r1⟩ := f1 g1
  obtain ⟨p2, r2⟩ := f2 g2
  simp only [bne_iff_ne, ne_eq]
  intro e
  obtain ⟨v1, v2, _⟩ := ok.anc ha (tHgt ns a - (tHgt ns C + 1)) (by omega)
  have e' : tAnc ns a (tHgt ns a - (tHgt ns C + 1)) = tAnc ns b (tHgt ns b - (tHgt ns C + 1)) := by omega
  have hin := s3 _ ⟨_, by omega, rfl⟩ ⟨_, by omega, e'.symm⟩
  have := (tIn_le ok i2 hin).2.2
  omega
set_option maxRecDepth 100000 in
set_option maxHeartbeats 8000000 in
theorem law_TreeCommon (l : List Hd) (A : Option Addr) (n c : Nat) (hn : l.length = n) (i j : Int) (w : World) (ht : Tabs w) (hr : RdHds w A l) :
    Calls Tryd.prog 6 #[.slice A n c, .int .i64 i, .int .i64 j] w fun e w' => e = .returned (.bool true) ∧ Below w.heap.size w w' := by
  have HAW := Lib.hid (awake15 w ht)
  replace hn := Lib.hid hn
  by_cases hbig : 40 < n
  · have t0 : decide ((40 : Int) < (n : Int)) = true := by simp; omega
    have t0' : decide (40 < n) = true := by simpa using hbig
    clear hr
    go_enter Tryd.func6, Tryd.ntmps6
    go_wp2_with (go_at_call 9; refine (HAW.out).mono ?_; rintro e w1 ⟨rfl, b1⟩)
    go_ret
    exact ⟨rfl, b1⟩
  have t0 : decide ((40 : Int) < (n : Int)) = false := by simp; omega
  have t0' : decide (40 < n) = false := by simpa using hbig
  by_cases hz : n = 0
  · subst hz
    clear hr hbig
    go_enter Tryd.func6, Tryd.ntmps6
    go_wp2_with (go_at_call 9; refine (HAW.out).mono ?_; rintro e w1 ⟨rfl, b1⟩)
    go_ret
    exact ⟨rfl, b1⟩
  have tz : ((n : Int) == 0) = false := by simp; omega
  obtain ⟨b, off, rfl⟩ := hr.adr (by rw [hn.out]; omega)
  go_enter Tryd.func6, Tryd.ntmps6
  go_upto_region 2 with (go_at_call 9; refine (HAW.out).mono ?_; rintro e w1 ⟨rfl, b1⟩)
  have HN := Lib.hid (TNew 60 w1)
  obtain ⟨Bs, hBs⟩ : ∃ B, B = w1.heap.size := ⟨_, rfl⟩
  have hBw : w.heap.size ≤ Bs := by rw [hBs]; exact b1.size
  have e60 : clampN 60 = 60 := rfl
  rw [e60, ← hBs] at HN
  replace hBs := Lib.hid hBs
  clear e60
  go_upto_region 5 with (go_at_call 10; refine (HN.out).mono ?_; rintro e w2 ⟨⟨R, M, rfl, T2⟩, b2⟩)
  have b02 : Below w.heap.size w w2 := b1.trans (b2.mono hBw)
  clear b1 b2
  go_upto_region 6 with fail
  go_loopw [9] (fun iv wr => ∃ (k : Nat) (v : Value), k ≤ n ∧ iv = .int .i64 (k : Int) ∧ TAt wr Bs R 60 v M (mAll 60 (l.take k)) ∧ Below w.heap.size w wr) (fun iv _ => n - (intOf iv).toNat)
  case atStart => exact ⟨0, _, by omega, rfl, T2, b02⟩
  case round =>
    clear T2 b02
    obtain ⟨k, v, hk, rfl, T, bw⟩ := hrel
    by_cases hlt : k < n
    · have t1 : decide ((k : Int) < (n : Int)) = true := by simp; omega
      obtain ⟨x, hx⟩ : ∃ x, l[k]? = some x := ⟨_, List.getElem?_eq_getElem (by rw [hn.out]; exact hlt)⟩
      obtain ⟨rx, xok⟩ := (hr.below bw).nth k x hx
      have hBr : Bs ≤ wr.heap.size := Nat.le_trans T.hR (Nat.le_of_lt T.av.lt)
      have HA := Lib.hid (TAdd Bs R 60 v M (mAll 60 (l.take k)) x xok wr (ht.below bw) T hBr)
      have hnx := Lib.hid (mAll_take 60 l k x hx)
      have x68 := Lib.hid (hdc_length xok)
      have rx2 := Lib.hid rx
      have m0 : (0 : Int) ≤ (k : Int) := by omega
      have m1 : (k : Int) < (n : Int) := by omega
      replace hx := Lib.hid hx
      clear rx
      go_wp2_with (first
        | ((with_reducible refine wpList_loadMF 27 (hdc x) rx2.out ?_ _ Tryd.underlying27 ?_ ?_ ?_); rfl; rfl; (rw [x68.out]; kernel_rfl))
        | (go_at_call 11; refine (HA.out).mono ?_; rintro e w5 ⟨rfl, ⟨v5, T5⟩, b5, K5⟩))
      rw [← hnx.out] at T5
      replace T5 := Lib.hid T5
      have b05 := Lib.hid (bw.trans (b5.mono hBw))
      refine ⟨⟨k + 1, v5, by omega, by go_num, T5.out, b05.out⟩, ?_⟩
      simp [intOf]; omega
    · obtain rfl : k = n := by omega
      have t1 : decide ((k : Int) < (k : Int)) = false := by simp
      have htk : l.take k = l := List.take_of_length_le (by rw [hn.out]; exact Nat.le_refl _)
      rw [htk] at T
      obtain ⟨ns, hns⟩ : ∃ ns, ns = mAll 60 l := ⟨_, rfl⟩
      rw [← hns] at T
      have ok : TOk ns := T.ok
      have hnl : ns.length ≤ k := by rw [hns, ← hn.out]; exact mAll_len 60 l
      replace htk := Lib.hid htk
      replace hns := Lib.hid hns
      obtain ⟨w3, hw3⟩ : ∃ w3, w3 = wr := ⟨_, rfl⟩
      rw [← hw3] at T bw ⊢
      clear hw3
      have hpos : 0 < ns.length := by rw [hns.out]; exact mAll_pos 60 l (by omega) (by rw [hn.out]; omega)
      obtain ⟨N, hN⟩ : ∃ N, N = ns.length := ⟨_, rfl⟩
      have HL := fun (w' : World) (q : TRef w' (.pointer (some ⟨R, 0, none⟩)) ns) => TLen _ ns w' q
      rw [← hN] at HL hpos
      obtain ⟨qa, a, ea1, ea2, ea3, ea4, ea5⟩ := and_ffff_at i N hpos
      obtain ⟨qb, b', eb1, eb2, eb3, eb4, eb5⟩ := and_ffff_at j N hpos
      obtain ⟨C, G, x, z1, z2, q1, q2, f1, f2, f3, f4, f5, f6, f7, f8, f9, f10, f11⟩ := com_law ok a b' (by omega) (by omega)
      have HC1 := fun (w' : World) (q : TRef w' (.pointer (some ⟨R, 0, none⟩)) ns) => TCommon _ ns ok (a : Int) (b' : Int) w' q
      have HC2 := fun (w' : World) (q : TRef w' (.pointer (some ⟨R, 0, none⟩)) ns) => TCommon _ ns ok (b' : Int) (a : Int) w' q
      rw [f1] at HC1
      rw [f2] at HC2
      have HN1 := fun (w' : World) (q : TRef w' (.pointer (some ⟨R, 0, none⟩)) ns) => TNode _ ns (C : Int) (by omega) w' q
      rw [nodeV_in f4] at HN1
      have HA1 := fun (w' : World) (q : TRef w' (.pointer (some ⟨R, 0, none⟩)) ns) => TAbove _ ns ok (a : Int) (G : Int) (by omega) w' q
      have HA2 := fun (w' : World) (q : TRef w' (.pointer (some ⟨R, 0, none⟩)) ns) => TAbove _ ns ok (b' : Int) (G : Int) (by omega) w' q
      have HA3 := fun (w' : World) (q : TRef w' (.pointer (some ⟨R, 0, none⟩)) ns) => TAbove _ ns ok (a : Int) ((G : Int) + 1) (by omega) w' q
      have HA4 := fun (w' : World) (q : TRef w' (.pointer (some ⟨R, 0, none⟩)) ns) => TAbove _ ns ok (b' : Int) ((G : Int) + 1) (by omega) w' q
      rw [f6] at HA1
      rw [f7] at HA2
      rw [f8] at HA3
      rw [f9] at HA4
      have xok := T.ok.nds x (List.mem_of_getElem? f4)
      obtain ⟨_, c101⟩ := ndc_at xok
      rw [f5] at c101
      have x106 := Lib.hid (ndc_length xok)
      have xone := Lib.hid (List.all_eq_true.2 (ndc_one x))
      have tN : ((N : Int) == 0) = false := by simp; omega
      have wG : IntKind.i64.wrap ((G : Int) + 1) = (G : Int) + 1 := by rw [IntKind.wrap_i64]; omega
      have wa : IntKind.i64.wrap (a : Int) = (a : Int) := by rw [IntKind.wrap_i64]; omega
      have wb : IntKind.i64.wrap (b' : Int) = (b' : Int) := by rw [IntKind.wrap_i64]; omega
      have tr := T.ref
      have hlim : (0 : Int) < (N : Int) := by omega
      have hN0 : ¬ ((N : Int) = 0) := by omega
      replace HL := Lib.hid HL
      replace HC1 := Lib.hid HC1
      replace HC2 := Lib.hid HC2
      replace HN1 := Lib.hid HN1
      replace HA1 := Lib.hid HA1
      replace HA2 := Lib.hid HA2
      replace HA3 := Lib.hid HA3
      replace HA4 := Lib.hid HA4
      replace hN := Lib.hid hN
      replace f4 := Lib.hid f4
      replace f10 := Lib.hid f10
      replace c101 := Lib.hid c101
      clear f1 f2 f5 f6 f7 f8 f9 ea3 eb3
      clear T
      go_upto_region 13 with (go_at_call 15; refine (HL.out _ tr).mono ?_; rintro e w6 ⟨rfl, rfl⟩)
      clear ea1 ea4 eb1 eb4 wa wb
      go_upto_region 14 with (go_at_call 22; refine (HC1.out _ tr).mono ?_; rintro e w7 ⟨rfl, b7⟩)
      have b07 := bw.trans (b7.mono bw.size)
      have tr7 := tr.below b7
      clear b7 tr bw
      go_upto_region 15 with (go_at_call 22; refine (HC2.out _ tr7).mono ?_; rintro e w8 ⟨rfl, b8⟩)
      have b08 := b07.trans (b8.mono b07.size)
      have tr8 := tr7.below b8
      clear b8 tr7 b07
      go_upto_region 16 with (first
        | (go_at_call 14; refine (HN1.out _ tr8).mono ?_; rintro e w9 ⟨rfl, b9⟩)
        | ((with_reducible refine wpList_storeF 41 ((Below.refl w9.heap.size w9).alloc (Nat.le_refl _) _) (heap_alloc_new _ _) (Nat.le_refl _) (ndc x) ?_ ?_ 106 ?_ ?_ ?_ ?_ ?_); rfl; rfl; exact x106.out; kernel_rfl; exact zcN_len; exact xone.out; intro wa a0 b0 k0 z0; clear k0; replace z0 := Lib.hid z0))
      have b8a := b9.trans (b0.mono b9.size)
      have b0a := b08.trans (b8a.mono b08.size)
      have tra := tr8.below b8a
      clear b9 b0 tr8 b08 b8a
      obtain ⟨g, hg⟩ : ∃ g, g = w9.heap.size := ⟨_, rfl⟩
      rw [← hg] at a0 ⊢
      replace hg := Lib.hid hg
      have ca := a0.cell 101 _ c101.out
      go_upto_region 17 with (go_at_call 23; refine (HA1.out _ tra).mono ?_; rintro e wb ⟨rfl, bb⟩)
      have b0b := b0a.trans (bb.mono b0a.size)
      have trb := tra.below bb
      have a1 := a0.below bb
      clear ca a0 bb tra b0a
      have cb := a1.cell 101 _ c101.out
      go_upto_region 18 with (go_at_call 23; refine (HA2.out _ trb).mono ?_; rintro e wc ⟨rfl, bc⟩)
      have b0c := b0b.trans (bc.mono b0b.size)
      have trc := trb.below bc
      have a2 := a1.below bc
      clear cb a1 bc trb b0b
      have cc := a2.cell 101 _ c101.out
      go_upto_region 19 with (go_at_call 23; refine (HA3.out _ trc).mono ?_; rintro e wd ⟨rfl, bd⟩)
      have b0d := b0c.trans (bd.mono b0c.size)
      have trd := trc.below bd
      have a3 := a2.below bd
      clear cc a2 bd trc b0c
      have cd := a3.cell 101 _ c101.out
      go_upto_region 20 with (go_at_call 23; refine (HA4.out _ trd).mono ?_; rintro e we ⟨rfl, be⟩)
      have b0e := b0d.trans (be.mono b0d.size)
      clear cd a3 be trd b0d
      cases q1 <;> cases q2
      case true.true =>
        have tt := f10.out rfl rfl
        go_wp2
        go_ret
        exact ⟨rfl, b0e⟩
      all_goals
        go_wp2
        go_ret
        exact ⟨rfl, b0e⟩
end Go.Proofs.YtijnkieakenipaaDoor
