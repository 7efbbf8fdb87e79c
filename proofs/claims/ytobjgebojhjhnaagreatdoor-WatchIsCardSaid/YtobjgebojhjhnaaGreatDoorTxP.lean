import Derived.Test.YtobjgebojhjhnaaGreatDoorQr6
import Derived.Deep.Cut
import Derived.Laws.EntriesVeiled
namespace Go.Proofs.YtobjgebojhjhnaaGreatDoor
set_option maxRecDepth 100000
set_option maxHeartbeats 16000000
open Go.RowKit Tryz
structure ME (w:World) (tc:List Value) (g1 g g6 base:Nat) (wr:World) (v:Value) (bs:List UInt8):Prop where
 buf:Ed wr g base v bs
 a1:Av wr g1 63 tc
 a6:Av wr g6 185 [.func (.func 80) #[] #[.pointer (some ⟨g,0,none⟩)]]
 o1:g1<base
 og:g<base
 o6:g6<base
 n1:g1≠g
 n6:g6≠g
 low:w.heap.size≤g
 lowb:w.heap.size≤base
 hb:base≤wr.heap.size
 bel:Below w.heap.size w wr
theorem ME.to {w:World} {tc:List Value} {g1 g g6 base:Nat} {wr w':World} {v v':Value} {bs bs':List UInt8} (h:ME w tc g1 g g6 base wr v bs) (k:mC g base wr v w' v' bs'):ME w tc g1 g g6 base w' v' bs':=by
 have hrow:∀ x,x<base→v.ownBlock≠some x:=fun x hx e=>by have:=(h.buf.own.lt x e).1;omega
 refine⟨k.buf,h.a1.same (k.keep g1 h.a1.lt h.n1 (hrow _ h.o1)).1,h.a6.same (k.keep g6 h.a6.lt h.n6 (hrow _ h.o6)).1,h.o1,h.og,h.o6,h.n1,h.n6,h.low,h.lowb,Nat.le_trans h.hb k.fr.size,?_⟩
 refine h.bel.trans (k.fr.b (fun x hx=>?_) h.bel.size)
 rcases hx with rfl|hx
 ·exact h.low
 ·have:=(h.buf.own.lt x hx).1;have:=h.lowb;omega
theorem ME.b {w:World} {tc:List Value} {g1 g g6 base:Nat} {wr w':World} {v:Value} {bs:List UInt8} (h:ME w tc g1 g g6 base wr v bs) (k:Below wr.heap.size wr w'):ME w tc g1 g g6 base w' v bs:=
 ⟨h.buf.b k,h.a1.b k,h.a6.b k,h.o1,h.og,h.o6,h.n1,h.n6,h.low,h.lowb,Nat.le_trans h.hb k.size,h.bel.trans (k.mono h.bel.size)⟩
theorem MF (ver lock : Nat) (hver : ver < 4294967296) (hlock : lock < 4294967296) (l : List (lI × Sl)) (m : List (fA × Sl)) (A1 A2 : Option Addr) (n1 n2 c1 c2 : Nat) (hn1 : l.length = n1) (hn2 : m.length = n2) (w : World) (h1 : fB w A1 l) (h2 : dH w A2 m) (hs : fN (cQ ver l m lock) = true) :
    Calls prog 56 #[.agg #[.int .u32 (ver : Int), .slice A1 n1 c1, .slice A2 n2 c2, .int .u32 (lock : Int)]] w fun e w' => ∃ v, e = .returned (.tuple #[v, .int .i64 0]) ∧ cE w' w.heap.size v (yT (cQ ver l m lock)) ∧ Below w.heap.size w w' := by
  have HS := Hy (fun w h1 h2 => NS ver lock l m A1 A2 n1 n2 c1 c2 hn1 hn2 w h1 h2)
  rw [hs] at HS
  have hsn := (iE _).1 hs
  simp only [cQ, List.length_map, hn1, hn2, List.forall_mem_map] at hsn
  obtain ⟨⟨k1, k2, k3⟩, s1, s2⟩ := hsn
  have b0 : Below w.heap.size w (w.alloc (.cells #[.int .u32 (ver : Int), .slice A1 n1 c1, .slice A2 n2 c2, .int .u32 (lock : Int)] 63)) := (Below.refl _ _).alloc LR _
  have e0 : Av (w.alloc (.cells #[.int .u32 (ver : Int), .slice A1 n1 c1, .slice A2 n2 c2, .int .u32 (lock : Int)] 63)) w.heap.size 63 [.int .u32 (ver : Int), .slice A1 n1 c1, .slice A2 n2 c2, .int .u32 (lock : Int)] := heap_alloc_new _ _
  have T1 := Hy (fun (n : Nat) (sz : Nat) (h : sz ≤ 8) g base w v bs hB hb hl => Gk (n : Int) OM sz h g base w v bs hB hb hl)
  clear hs
  have s1' := Hy s1
  have s2' := Hy s2
  replace hn1 := Hy hn1
  replace hn2 := Hy hn2
  clear s1 s2
  go_enter func56, ntmps56
  go_upto_region 7 with (first
    | refine cZ (l := [.int .u32 (ver : Int), .slice A1 n1 c1, .slice A2 n2 c2, .int .u32 (lock : Int)]) (heap_alloc_new _ _) rfl _ _ rfl rfl _ 4 rfl Tg rfl KR ?_
    | (go_at_call 37; refine (HS.out _ (h1.b b0) (h2.b b0)).mono ?_; rintro e w2 ⟨rfl, b2⟩))
  have e2 := e0.b b2
  have b02 := b0.trans (b2.mono b0.size)
  have hsz2 : w.heap.size + 1 ≤ w2.heap.size := by have := b2.size; simp at this; omega
  obtain ⟨W, hW⟩ := Nm ((w2.alloc (.cells #[.slice none 0 0] 27)).alloc (.cells #[.func (.func 80) #[] #[.pointer (some ⟨w2.heap.size, 0, none⟩)]] 185))
  rw [← hW]
  have P0 : ME w [.int .u32 (ver : Int), .slice A1 n1 c1, .slice A2 n2 c2, .int .u32 (lock : Int)] w.heap.size w2.heap.size (w2.heap.size + 1) (w2.heap.size + 2) W (.slice none 0 0) [] := by
    have bW : Below w2.heap.size w2 W := by rw [hW]; exact ((Below.refl _ _).alloc LR _).alloc zS _
    refine ⟨⟨by rw [hW]; exact heap_alloc2_old _ _ _, cE.nil _ _, by simp [Value.ownBlock]⟩, e2.b bW, by rw [hW]; exact heap_alloc2_new _ _ _, by omega, by omega, by omega, by omega, by omega, by omega, by omega, by rw [hW]; simp, b02.trans (bW.mono b02.size)⟩
  clear hW b0 e0 b2 e2 b02
  generalize hg : w2.heap.size = g at *
  have hg1 : w.heap.size + 1 ≤ g := hsz2
  clear hg
  have hc0 := P0.a1.cell 0 _ rfl
  have v0 : 0 ≤ (ver : Int) := by omega
  have v1 : (ver : Int) < 4294967296 := by omega
  have v2 : 0 ≤ (lock : Int) := by omega
  have v3 : (lock : Int) < 4294967296 := by omega
  go_wp2_with fail
  refine (T1.out ver 4 OM g (g + 2) W _ [] P0.buf P0.hb zS).mono ?_
  rintro e W1 ⟨⟨r1, rfl⟩, u1, B1⟩
  replace P0 := P0.to B1
  clear B1 hc0
  have hc1 := P0.a1.cell 1 _ rfl
  have hc6 := P0.a6.cell 0 _ rfl
  rw [List.nil_append] at P0
  have HP2 := Hy (JX n1 OM g (g + 2) W1 u1 _ P0.buf P0.hb (by rw [Cm.lo_length]; omega))
  have P0' := Hy P0
  clear P0
  go_wp2_with fail
  refine (HP2.out).mono ?_
  rintro e W2 ⟨⟨r2, rfl⟩, u2, B2⟩
  have P0 := P0'.out.to B2
  clear B2 hc1 hc6 HP2 P0'
  have hc1 := P0.a1.cell 1 _ rfl
  go_wp2
  go_loopw [9, 31] (fun _ i wr => ∃ (k : Nat) (v : Value) (bs : List UInt8), k ≤ n1 ∧ i = .int .i64 (k : Int) ∧ ME w [.int .u32 (ver : Int), .slice A1 n1 c1, .slice A2 n2 c2, .int .u32 (lock : Int)] w.heap.size g (g + 1) (g + 2) wr v bs ∧ Hid (bs = Cm.lo 4 ver ++ (Cm.put n1 ++ (l.take k).flatMap (fun e => Mx e.1))) ∧ bs.length ≤ 100 + k * 10049) (fun _ i _ => n1 - (intOf i).toNat)
  case atStart =>
    refine ⟨0, u2, _, by omega, rfl, P0, Hy zS, ?_⟩
    have := (Cm.size_le n1).2
    rw [List.length_append, Cm.lo_length, Cm.put_length]; omega
  case round =>
    clear hc1 P0
    obtain ⟨k, v, bs, hk, rfl, P0, hbs, hlen⟩ := hrel
    by_cases hlt : k < n1
    · have t4 : decide ((k : Int) < (n1 : Int)) = true := by simp; omega
      obtain ⟨e, he⟩ : ∃ e, l[k]? = some e := ⟨_, List.getElem?_eq_getElem (by rw [hn1.out]; exact hlt)⟩
      obtain ⟨b1, off, rfl⟩ := h1.adr (by rw [hn1.out]; omega)
      obtain ⟨hrng, hin⟩ := (h1.b P0.bel).nth k e he
      obtain ⟨hr0, hi0⟩ := h1.nth k e he
      obtain ⟨i32, i33, i34⟩ := uU hin
      have eB := iR hin
      have hone := nV (tY e)
      have Jx := s1'.out e (List.mem_of_getElem? he)
      obtain ⟨⟨hp32, hidx, hseq⟩, hrs0, _⟩ := hi0
      obtain ⟨q, hq⟩ : ∃ q, e.1.scr.length = q := ⟨_, rfl⟩
      rw [hq] at i33 Jx
      obtain ⟨ix, hix⟩ := Nm ((e.1.idx : Int))
      obtain ⟨sx, hsx⟩ := Nm ((e.1.seq : Int))
      rw [← hix] at i32
      rw [← hsx] at i34
      have x0 : 0 ≤ ix := by omega
      have x1 : ix < 4294967296 := by omega
      have y0 : 0 ≤ sx := by omega
      have y1 : sx < 4294967296 := by omega
      replace hix : e.1.idx = ix.toNat := by omega
      replace hsx : e.1.seq = sx.toNat := by omega
      clear hidx hseq
      replace hix := Hy hix
      replace hsx := Hy hsx
      obtain ⟨cs, cK⟩ := Nm (sB e)
      rw [← cK] at hrng eB hone i32 i33 i34
      have htk : cs.take 32 = e.1.prev.map bv := by rw [cK, sB, List.take_append_of_le_length (by rw [List.length_map, hp32]; omega), List.take_of_length_le (by rw [List.length_map, hp32]; omega)]
      have m0 : 0 ≤ (k : Int) := by omega
      have m1 : (k : Int) < (n1 : Int) := by omega
      replace i32 := Hy i32
      replace i33 := Hy i33
      replace i34 := Hy i34
      replace eB := Hy eB
      replace hone := Hy hone
      replace htk := Hy htk
      replace he := Hy he
      replace hq := Hy hq
      replace hp32 := Hy hp32
      replace hrs0 := Hy hrs0
      have hvlt := fun x (h : v.ownBlock = some x) => P0.buf.own.lt x h
      replace hvlt := Hy hvlt
      have PH := Hy P0
      obtain ⟨gi, hgi⟩ := Nm (wr.heap.size)
      clear cK hin hr0 P0
      go_upto_region 12 with (first
        | refine wpList_load_mid rfl _ _ rfl b1 (off + k * 35) rfl cs _ hrng TA rfl (by rw [eB.out]; exact BI) ?_
        | (refine aP ((Below.refl wr.heap.size wr).alloc LR _) (heap_alloc_new _ _) LR rfl _ _ _ rfl rfl cs rfl 35 eB.out KR rfl hone.out ?_
           intro w3 a3 b3 k3 z3; replace z3 := Hy z3; clear k3))
      rw [← hgi] at a3
      rw [← hgi]
      have P3 := PH.out.b b3
      have hgi3 : gi < w3.heap.size := a3.lt
      have hbg : g + 2 ≤ gi := by rw [hgi]; exact PH.out.hb
      have hvg : v.ownBlock ≠ some gi := fun h => by have := (hvlt.out gi h).2; omega
      clear b3 hrng hvlt z3 PH
      replace hgi := Hy hgi
      have cv := P3.buf.av
      replace P3 := Hy P3
      refine bL 3 [] cI KR KR KR KR KR cI.refl cI.trans (by intro p hp; cases hp) ?_
      refine ZP (c := v) (fun w hw => by have := (cv.b hw.drew).cell 0 _ rfl; go_simp; first | done | rfl) ?_
      refine ZP (fun w _ => by go_simp; first | done | rfl) ?_
      refine ZP (fun w _ => by go_simp; first | done | rfl) ?_
      refine bO fun w4 hw4 => aF ?_
      simp only [List.drop_succ_cons, List.drop_zero]
      have P4 := P3.out.b hw4.drew
      have a4 := a3.b hw4.drew
      have hgi4 : gi < w4.heap.size := a4.lt
      clear P3 a3 cv hgi3
      have hb2 := P4.buf
      have hbase2 := P4.hb
      have hrp : Rd w4 (some ⟨gi, 0, none⟩) (e.1.prev.map bv) := by rw [← htk.out]; exact a4.rd.take 32
      have hP4 := Hy P4
      have ha4 := Hy a4
      clear P4 a4
      refine nI hb2.own hbase2 32 32 hrp hp32.out OM rfl (.tmp 35) (.tmp 37) rfl rfl rfl ?_
      intro v3 w3 o3 gr3 ob3
      obtain ⟨q3, A3, c3, rfl⟩ := o3.formE
      have q1 := hb2.av.same (gr3.block _ hb2.av.lt (fun e => hb2.ne e.symm))
      refine iI rfl _ _ _ rfl rfl q1 zS A3 q3 c3 rfl KR ?_
      have B3 := hb2.app o3 gr3 ob3
      have P5 := hP4.out.to B3
      obtain ⟨e5, n5⟩ := B3.keep gi hgi4 OM hvg
      have a5 := ha4.out.same e5
      clear o3 gr3 ob3 q1 hb2 hbase2 hrp B3 e5 hP4 ha4
      generalize Value.slice A3 q3 c3 = v5 at *
      generalize w3.setCell ⟨g, 0, none⟩ v5 = W5 at *
      have c32 := a5.cell 32 _ i32.out
      have hg5 : gi < W5.heap.size := a5.lt
      have HN := Hy (Gk ix x0 4 OM g (g + 2) W5 v5 _ P5.buf P5.hb (by rw [List.length_append, hp32.out]; omega))
      replace P5 := Hy P5
      replace a5 := Hy a5
      go_wp2_with fail
      refine (HN.out).mono ?_
      rintro ee W6 ⟨⟨r6, rfl⟩, v6, B6⟩
      have P6 := P5.out.to B6
      obtain ⟨e6, n6⟩ := B6.keep gi hg5 OM n5
      have a6 := a5.out.same e6
      clear B6 e6 P5 a5 HN c32 hg5 n5
      have c33 := a6.cell 33 _ i33.out
      have hg6 : gi < W6.heap.size := a6.lt
      have hA6 : e.1.scr ≠ [] → ∀ a, e.2.1 = some a → a.block ≠ g ∧ v6.ownBlock ≠ some a.block := fun hne a ha => by
        have := hrs0.out.lt (by simpa using hne) a ha
        exact ⟨by omega, fun h => by have := (P6.buf.own.lt _ h).1; omega⟩
      have HN := Hy (NY e.1.scr e.2.1 q e.2.2 hq.out OM (g + 1) g (g + 2) W6 v6 _ (hrs0.out.b P6.bel) (hA6) P6.a6 P6.buf P6.hb (by simp only [List.length_append, hp32.out, Cm.lo_length]; omega))
      replace P6 := Hy P6
      replace a6 := Hy a6
      go_wp2_with fail
      refine (HN.out).mono ?_
      rintro ee W7 ⟨⟨r7, rfl⟩, v7, B7⟩
      have P7 := P6.out.to B7
      obtain ⟨e7, n7⟩ := B7.keep gi hg6 OM n6
      have a7 := a6.out.same e7
      clear B7 e7 P6 a6 HN c33 hg6 n6
      have c34 := a7.cell 34 _ i34.out
      have hpl := (Cm.size_le q).2
      have HN := Hy (Gk sx y0 4 OM g (g + 2) W7 v7 _ P7.buf P7.hb (by simp only [List.length_append, hp32.out, Cm.lo_length, Cm.put_length, hq.out]; omega))
      replace P7 := Hy P7
      clear a7
      go_wp2_with fail
      refine (HN.out).mono ?_
      rintro ee W8 ⟨⟨r8, rfl⟩, v8, B8⟩
      have P8 := P7.out.to B8
      clear B8 P7 HN c34 n7
      go_wp2
      refine ⟨⟨k + 1, v8, _, by omega, by go_num, P8, Hy ?_, ?_⟩, ?_⟩
      · rw [hbs.out, List.take_add_one, he.out]
        simp only [Option.toList_some, List.flatMap_append, List.flatMap_cons, List.flatMap_nil, List.append_nil, Mx, hq.out, hix.out, hsx.out, List.append_assoc]
      · simp only [List.length_append, hp32.out, Cm.lo_length, Cm.put_length, hq.out]; omega
      · simp [intOf]; omega
    · obtain rfl : n1 = k := by omega
      have t4 : decide ((n1 : Int) < (n1 : Int)) = false := by simp
      have hk1 : n1 * 10049 ≤ 10049000 := by omega
      have hfl : bs = Cm.lo 4 ver ++ (Cm.put n1 ++ l.flatMap (fun e => Mx e.1)) := by
        have := hbs.out
        rw [List.take_of_length_le (by rw [hn1.out]; omega)] at this
        exact this
      replace hfl := Hy hfl
      clear hbs
      have hc2 := P0.a1.cell 2 _ rfl
      have hc6 := P0.a6.cell 0 _ rfl
      have HP2 := Hy (JX n2 OM g (g + 2) wr v _ P0.buf P0.hb OM)
      have P0' := Hy P0
      clear P0
      go_wp2_with fail
      refine (HP2.out).mono ?_
      rintro e W2 ⟨⟨r2, rfl⟩, u2, B2⟩
      have P0 := P0'.out.to B2
      clear B2 hc2 hc6 HP2 P0'
      have hc2 := P0.a1.cell 2 _ rfl
      go_wp2
      go_loopw [11, 62] (fun _ i wr => ∃ (j : Nat) (v : Value) (bs2 : List UInt8), j ≤ n2 ∧ i = .int .i64 (j : Int) ∧ ME w [.int .u32 (ver : Int), .slice A1 n1 c1, .slice A2 n2 c2, .int .u32 (lock : Int)] w.heap.size g (g + 1) (g + 2) wr v bs2 ∧ Hid (bs2 = bs ++ (Cm.put n2 ++ (m.take j).flatMap (fun e => vD e.1))) ∧ bs2.length ≤ 10050000 + j * 10017) (fun _ i _ => n2 - (intOf i).toNat)
      case atStart =>
        refine ⟨0, u2, _, by omega, rfl, P0, Hy zS, ?_⟩
        have := (Cm.size_le n2).2
        rw [List.length_append, Cm.put_length]; omega
      case round =>
        clear hc2 P0
        obtain ⟨j, v, bs2, hj, rfl, P0, hbs2, hlen2⟩ := hrel
        by_cases hlt2 : j < n2
        · have t5 : decide ((j : Int) < (n2 : Int)) = true := by simp; omega
          obtain ⟨e, he⟩ : ∃ e, m[j]? = some e := ⟨_, List.getElem?_eq_getElem (by rw [hn2.out]; exact hlt2)⟩
          obtain ⟨b1, off, rfl⟩ := h2.adr (by rw [hn2.out]; omega)
          obtain ⟨hrng, hin⟩ := (h2.b P0.bel).nth j e he
          obtain ⟨hr0, hi0⟩ := h2.nth j e he
          have eB := iS e
          have hone := nV (uA e)
          have Jx := s2'.out e (List.mem_of_getElem? he)
          obtain ⟨hval, hrs0, _⟩ := hi0
          unfold fA.ok at hval
          obtain ⟨q, hq⟩ : ∃ q, e.1.scr.length = q := ⟨_, rfl⟩
          have i32 : (kB e)[0]? = some (.int .u64 (e.1.val : Int)) := rfl
          have i33 : (kB e)[1]? = some (BE q e.2) := by rw [← hq]; rfl
          rw [hq] at Jx
          obtain ⟨vx, hvx⟩ := Nm ((e.1.val : Int))
          rw [← hvx] at i32
          have x0 : 0 ≤ vx := by omega
          replace hvx : e.1.val = vx.toNat := by omega
          clear hval
          replace hvx := Hy hvx
          obtain ⟨cs, cK⟩ := Nm (kB e)
          rw [← cK] at hrng eB hone i32 i33
          have m0 : 0 ≤ (j : Int) := by omega
          have m1 : (j : Int) < (n2 : Int) := by omega
          replace i32 := Hy i32
          replace i33 := Hy i33
          replace eB := Hy eB
          replace hone := Hy hone
          replace he := Hy he
          replace hq := Hy hq
          replace hrs0 := Hy hrs0
          have hvlt := fun x (h : v.ownBlock = some x) => P0.buf.own.lt x h
          replace hvlt := Hy hvlt
          have PH := Hy P0
          obtain ⟨gi, hgi⟩ := Nm (wr.heap.size)
          clear cK hin hr0 P0
          go_upto_region 21 with (first
            | refine wpList_load_mid rfl _ _ rfl b1 (off + j * 2) rfl cs _ hrng TB rfl (by rw [eB.out]; exact xC) ?_
            | (refine aP ((Below.refl wr.heap.size wr).alloc LR _) (heap_alloc_new _ _) LR rfl _ _ _ rfl rfl cs rfl 2 eB.out KR rfl hone.out ?_
               intro w3 a3 b3 k3 z3; replace z3 := Hy z3; clear k3))
          rw [← hgi] at a3
          rw [← hgi]
          have P5 := PH.out.b b3
          have hg5 : gi < w3.heap.size := a3.lt
          have hbg : g + 2 ≤ gi := by rw [hgi]; exact PH.out.hb
          have n5 : v.ownBlock ≠ some gi := fun h => by have := (hvlt.out gi h).2; omega
          clear b3 hrng hvlt z3 PH
          replace hgi := Hy hgi
          have hc32 := a3.cell 0 _ i32.out
          have HN := Hy (Gk vx x0 8 OM g (g + 2) w3 v _ P5.buf P5.hb OM)
          replace P5 := Hy P5
          replace a3 := Hy a3
          go_wp2_with fail
          refine (HN.out).mono ?_
          rintro ee W6 ⟨⟨r6, rfl⟩, v6, B6⟩
          have P6 := P5.out.to B6
          obtain ⟨e6, n6⟩ := B6.keep gi hg5 OM n5
          have a6 := a3.out.same e6
          clear B6 e6 P5 a3 HN hc32 hg5 n5
          have hc33 := a6.cell 1 _ i33.out
          have hA6 : e.1.scr ≠ [] → ∀ a, e.2.1 = some a → a.block ≠ g ∧ v6.ownBlock ≠ some a.block := fun hne a ha => by
            have := hrs0.out.lt (by simpa using hne) a ha
            exact ⟨by omega, fun h => by have := (P6.buf.own.lt _ h).1; omega⟩
          have HN := Hy (NY e.1.scr e.2.1 q e.2.2 hq.out OM (g + 1) g (g + 2) W6 v6 _ (hrs0.out.b P6.bel) hA6 P6.a6 P6.buf P6.hb (by simp only [List.length_append, Cm.lo_length]; omega))
          replace P6 := Hy P6
          clear a6
          go_wp2_with fail
          refine (HN.out).mono ?_
          rintro ee W7 ⟨⟨r7, rfl⟩, v7, B7⟩
          have P7 := P6.out.to B7
          clear B7 P6 HN hc33 n6
          have hpl := (Cm.size_le q).2
          go_wp2
          refine ⟨⟨j + 1, v7, _, by omega, by go_num, P7, Hy ?_, ?_⟩, ?_⟩
          · rw [hbs2.out, List.take_add_one, he.out]
            simp only [Option.toList_some, List.flatMap_append, List.flatMap_cons, List.flatMap_nil, List.append_nil, vD, hq.out, hvx.out, List.append_assoc]
          · simp only [List.length_append, Cm.lo_length, Cm.put_length, hq.out]; omega
          · simp [intOf]; omega
        · obtain rfl : n2 = j := by omega
          have t5 : decide ((n2 : Int) < (n2 : Int)) = false := by simp
          have hj1 : n2 * 10017 ≤ 10017000 := by omega
          have hc3 := P0.a1.cell 3 _ rfl
          have HN := Hy (T1.out lock 4 OM g (g + 2) wr v _ P0.buf P0.hb OM)
          have P0' := Hy P0
          clear P0
          go_wp2_with fail
          refine (HN.out).mono ?_
          rintro ee W6 ⟨⟨r6, rfl⟩, v6, B6⟩
          have P6 := P0'.out.to B6
          clear B6 P0' HN hc3
          have hcv := P6.buf.av.cell 0 _ rfl
          obtain ⟨q6, A6, c6, rfl⟩ := P6.buf.own.formE
          go_wp2
          go_ret2
          refine ⟨_, rfl, ?_, P6.bel⟩
          have ho := P6.buf.own
          have hb2 := hbs2.out
          rw [List.take_of_length_le (by rw [hn2.out]; omega)] at hb2
          rw [hb2, hfl.out] at ho
          simp only [yT, cQ, List.length_map, hn1.out, hn2.out, List.flatMap_map]
          simp only [List.append_assoc] at ho
          exact cE.low ho P6.lowb
end Go.Proofs.YtobjgebojhjhnaaGreatDoor
