import Derived.Test.YtobjgebojhjhnaaGreatDoorQr15
import Derived.Deep.Cut
import Derived.Test.YtobjgebojhjhnaaGreatDoorCMath
namespace Go.Proofs.YtobjgebojhjhnaaGreatDoor
set_option maxRecDepth 100000
set_option maxHeartbeats 16000000
open Go.RowKit Tryz
theorem NP (h:List fH) (hh:h.length=8) (rs:List UInt8) (A:Option Addr) (n c:Nat) (hn:rs.length=n) (hn6:n<64) (hnc:n≤c) (N:Int) (h0:0≤N) (h1:N<18446744073709551616) (h64:N % 64=n)
  (bs:List UInt8) (B:Option Addr) (m cb:Nat) (hm:bs.length=m) (hc:m≤cb) (hnm:n=0∨64≤n+m) (w:World) (hq:Rd w A (rs.map bv)) (hr:Rd w B (bs.map bv)) (ht:fW w):
  Calls prog 116 #[.agg (fU h A n c N).toArray,.slice B m cb] w fun e w'=>
   ∃ A' c',e= .returned (.agg (fU (dW ((n+m) / 64) h (rs++bs)) A' ((n+m) % 64) c' (IntKind.u64.wrap (N+IntKind.u64.wrap (m:Int)))).toArray)∧(n+m) % 64≤c'∧Rd w' A' (((rs++bs).drop (64*((n+m) / 64))).map bv)∧Below w.heap.size w w':=by
 by_cases hz:n=0
 ·subst hz
  have:rs= []:=List.length_eq_zero_iff.1 hn
  subst this
  simp only[Nat.zero_add,List.nil_append]
  exact OG h hh A c N h0 h1 (by simpa using h64) bs B m cb hm hc w hr ht
 ·exact OH h hh rs A n c hn OM hn6 hnc N h0 h1 h64 bs B m cb hm hc OM w hq hr ht
def w8 (x:fH) (s:Nat):UInt8:=UInt8.ofNat (x.toNat / 2 ^ s)
theorem vA (x:fH) (s:Nat):wn x / 2 ^ s % 256=((w8 x s).toNat:Int):=by
 have e:(w8 x s).toNat=x.toNat / 2 ^ s % 256:=UInt8.toNat_ofNat'
 rw[e,jZ]
 simp
def pZ (h:List fH):Nat→List UInt8
 |0=>List.replicate 32 0
 |k+1=>((((pZ h k).set (4*k) (w8 (h.getD k 0) 24)).set (4*k+1) (w8 (h.getD k 0) 16)).set (4*k+2) (w8 (h.getD k 0) 8)).set (4*k+3) (w8 (h.getD k 0) 0)
theorem eJ (h:List fH) (k:Nat):(pZ h k).length=32:=by
 induction k with
 |zero=>simp[pZ]
 |succ k ih=>simp[pZ,ih]
def Mk (h:List fH):List UInt8:=pZ h 8
theorem Cv (h:List fH):(Mk h).length=32:=eJ h 8
theorem Eo (l:List fH) (hl:l.length=8) (k:Nat) (hk:k<8) (w:World):
  (Instr.index 232 (.agg (l.map wc).toArray) (.int .i64 (k:Int))).run prog w= .ok (wc (l.getD k 0)) w:=by
 obtain⟨v0,v1,v2,v3,v4,v5,v6,v7,rfl⟩:=uQ hl
 rcases (show k=0∨k=1∨k=2∨k=3∨k=4∨k=5∨k=6∨k=7 by omega) with rfl|rfl|rfl|rfl|rfl|rfl|rfl|rfl <;> kernel_rfl
theorem Av.get {w:World} {g:Nat} {t:TypeId} {l:List UInt8} (h:Av w g t (l.map bv)) (i:Nat) (hi:i<l.length):w.cell? ⟨g,i,none⟩=some (bv (l.getD i 0)):=
 h.cell i _ (by rw[List.getElem?_map,List.getElem?_eq_getElem hi,List.getD_eq_getElem?_getD,List.getElem?_eq_getElem hi];rfl)
abbrev cK (b:List UInt8):Array Value:=(b.map bv).toArray
theorem eK: #[Value.int IntKind.u8 0,Value.int IntKind.u8 0,Value.int IntKind.u8 0,Value.int IntKind.u8 0,Value.int IntKind.u8 0,Value.int IntKind.u8 0,Value.int IntKind.u8 0,Value.int IntKind.u8 0,Value.int IntKind.u8 0,Value.int IntKind.u8 0,Value.int IntKind.u8 0,Value.int IntKind.u8 0,Value.int IntKind.u8 0,Value.int IntKind.u8 0,Value.int IntKind.u8 0,Value.int IntKind.u8 0,Value.int IntKind.u8 0,Value.int IntKind.u8 0,Value.int IntKind.u8 0,Value.int IntKind.u8 0,Value.int IntKind.u8 0,Value.int IntKind.u8 0,Value.int IntKind.u8 0,Value.int IntKind.u8 0,Value.int IntKind.u8 0,Value.int IntKind.u8 0,Value.int IntKind.u8 0,Value.int IntKind.u8 0,Value.int IntKind.u8 0,Value.int IntKind.u8 0,Value.int IntKind.u8 0,Value.int IntKind.u8 0]=((List.replicate 32 (0:UInt8)).map bv).toArray:=rfl
def Cw (bs:List UInt8):VP:=fun v w=>∃ A,v= .slice A bs.length bs.length∧Rd w A (bs.map bv)
theorem Cw.mono {bs:List UInt8} {v:Value} {w w':World} (h:cI w w'):Cw bs v w→Cw bs v w':=by
 rintro⟨A,rfl,hr⟩
 exact⟨A,rfl,hr.b h⟩
theorem SA (h : List fH) (hh : h.length = 8) (rs : List UInt8) (A : Option Addr) (n c : Nat) (hn : rs.length = n) (hn6 : n < 64) (hnc : n ≤ c) (N : Nat) (h1 : N < 18446744073709551616) (h64 : N % 64 = n)
    (w : World) (hq : Rd w A (rs.map bv)) (ht : fW w) :
    Calls prog 115 #[.agg (fU h A n c N).toArray] w fun e w' =>
      e = .returned (.agg (cK (Mk (dW ((n + (gR N + 9)) / 64) h (rs ++ jI N))))) ∧ Below w.heap.size w w' := by
  have hs := OE h hh A n c N OM OM OM true (by simp; omega)
  have hpl : (jI N).length = gR N + 9 := pM N 8
  have hpz : (n + (gR N + 9)) % 64 = 0 ∧ 64 ≤ n + (gR N + 9) := by rw [gR]; split <;> omega
  obtain ⟨h', hh'⟩ : ∃ l, l = dW ((n + (gR N + 9)) / 64) h (rs ++ jI N) := ⟨_, rfl⟩
  have hl' : h'.length = 8 := by rw [hh', bQ _ _ _ hh]
  rw [← hh']
  replace hh' := Hy hh'
  replace hl' := Hy hl'
  obtain ⟨ss, hss⟩ : ∃ ss : List Value, ss = fU h A n c N := ⟨_, rfl⟩
  have c9 : ss[9]? = some (.int .u64 (N : Int)) := by rw [hss, fU, List.getElem?_append_right (by simp [hh])]; simp [hh]
  rw [← hss] at hs ⊢
  have hsl : ss.length = 10 := by rw [hss]; simp [fU, hh]
  replace hss := Hy hss
  replace hsl := Hy hsl
  replace hh := Hy hh
  replace hpl := Hy hpl
  replace hn := Hy hn
  replace h64 := Hy h64
  replace c9 := Hy c9
  obtain ⟨zs, hzs⟩ : ∃ zs : List UInt8, zs = List.replicate 32 0 := ⟨_, rfl⟩
  have hz := eK
  rw [← hzs] at hz
  have hzl : (zs.map bv).length = 32 := by rw [hzs]; simp
  replace hzs := Hy hzs
  replace hzl := Hy hzl
  go_enter func115, ntmps115
  have hb0 : Below w.heap.size w ((w.alloc (.cells ss.toArray 234)).alloc (.cells (zs.map bv).toArray 35)) := ((Below.refl _ _).alloc LR _).alloc zS _
  have ha1 : Av ((w.alloc (.cells ss.toArray 234)).alloc (.cells (zs.map bv).toArray 35)) w.heap.size 234 ss := heap_alloc2_old _ _ _
  have ha2 : Av ((w.alloc (.cells ss.toArray 234)).alloc (.cells (zs.map bv).toArray 35)) (w.heap.size + 1) 35 (zs.map bv) := heap_alloc2_new _ _ _
  go_wp2_with (refine cZ ha1 rfl _ _ rfl rfl _ 10 hsl.out Tm rfl KR ?_)
  generalize (w.alloc (.cells ss.toArray 234)).alloc (.cells (zs.map bv).toArray 35) = w0 at *
  refine (hs w0).mono ?_
  rintro e w1 ⟨rfl, b1⟩
  replace ha1 := ha1.b b1
  replace ha2 := ha2.b b1
  replace b1 := hb0.trans (b1.mono hb0.size)
  clear hb0 hs
  go_wp2_with fail
  have HP := Hy (Sz N h1)
  refine bL 4 [(3, Cw (jI N))] cI KR KR KR KR KR cI.refl cI.trans (by intro p hp v w w' hR; simp only [List.mem_singleton] at hp; subst hp; exact Cw.mono hR) ?_
  refine ZP (c := .agg ss.toArray) (fun w hw => aE (ha1.b hw.drew) _ _ rfl rfl _ 10 hsl.out Tm rfl KR) ?_
  refine ZP (fun w _ => by go_simp; first | done | rfl) ?_
  refine ZP (c := .int .u64 (N : Int)) (fun w hw => by have := (ha1.b hw.drew).cell 9 _ c9.out; go_simp; first | done | rfl) ?_
  refine AV _ rfl rfl rfl 133 #[.int .u64 (N : Int)] (fun w => by go_simp) (fun w hw => (HP.out w).mono ?_) ?_
  · rintro e w' ⟨rfl, hr, hb⟩
    exact ⟨_, rfl, hb, _, by rw [hpl.out], hr⟩
  refine bO fun w2 hw2 => aC rfl rfl fun v hv => aF ?_
  simp only [List.set_cons_succ, List.set_cons_zero]
  obtain ⟨B, rfl, hrb⟩ := hv
  replace hw2 := hw2.drew
  replace ha1 := ha1.b hw2
  replace ha2 := ha2.b hw2
  have b2 := b1.trans (hw2.mono b1.size)
  have HW := NP h hh.out rs A n c hn.out hn6 hnc N OM OM (by have := h64.out; omega) (jI N) B (gR N + 9) (gR N + 9) hpl.out LR (.inr hpz.2) w2 (hq.b b2) hrb (ht.b b2)
  rw [hpz.1, ← hss.out] at HW
  have hdr : (rs ++ jI N).drop (64 * ((n + (gR N + 9)) / 64)) = [] := List.drop_of_length_le (by rw [List.length_append, hn.out, hpl.out]; omega)
  rw [hdr] at HW
  rw [← hh'.out] at HW
  obtain ⟨N2, hN2⟩ := Nm (IntKind.u64.wrap ((N : Int) + IntKind.u64.wrap ((gR N + 9 : Nat) : Int)))
  rw [← hN2] at HW
  rw [hpl.out]
  replace HW := Hy HW
  clear hh' hN2 hdr
  simp only [List.drop_succ_cons, List.drop_zero]
  go_wp2_with fail
  refine HW.out.mono ?_
  rintro e w3 ⟨A3, c3, rfl, -, -, b3⟩
  clear HW
  replace ha1 := ha1.b b3
  replace ha2 := ha2.b b3
  replace b3 := b2.trans (b3.mono b2.size)
  clear b1 b2 hw2 hrb HP hpz
  go_wp2_with (first
    | refine wpList_load_mid rfl _ _ rfl _ _ rfl _ _ r4 Te rfl (by rw [List.length_map, hl'.out]; kernel_rfl) ?_
    | (refine aP b3 ha1 LR rfl _ _ _ rfl rfl (fU h' A3 0 c3 N2) rfl 10 (by simp [fU, hl'.out]) KR (by rw [List.size_toArray]; exact hsl.out) (by simp [fU, Value.oneCell']) ?_
       intro w4 a4 b4 k4 z4
       replace z4 := Hy z4
       have r4 : (w4.alloc (.cells (zs.map bv).toArray 35)).rangeAt w.heap.size 0 (h'.map wc) := Av.rangeAt (pre := []) (rest := [.slice A3 0 c3, .int .u64 N2]) (a4.alloc _) 0 rfl))
  have z5 : w.heap.size + 1 < w4.heap.size := by rw [z4.out]; exact ha2.lt
  replace ha2 := ha2.same (k4 (w.heap.size + 1) OM)
  have a5 : Av (w4.alloc (.cells (zs.map bv).toArray 35)) w4.heap.size 35 ((pZ h' 0).map bv) := by
    have := heap_alloc_new w4 (.cells (zs.map bv).toArray 35)
    rw [hzs.out] at this ⊢
    exact this
  have b5 := b4.alloc b4.size (.cells (zs.map bv).toArray 35)
  have a6 := ha2.alloc (.cells (zs.map bv).toArray 35)
  clear r4 k4 ha2 a4 ha1
  replace z5 := Hy z5
  go_loopw [17] (fun i wr => ∃ k : Nat, k ≤ 8 ∧ i = .int .i64 k ∧ Below w.heap.size w wr ∧ Av wr w4.heap.size 35 ((pZ h' k).map bv) ∧ Av wr (w.heap.size + 1) 35 (zs.map bv)) (fun i _ => 8 - (intOf i).toNat)
  case atStart => exact ⟨0, by omega, rfl, b5, a5, a6⟩
  case round =>
    clear a5 a6 b5 b3
    obtain ⟨k, hk, rfl, hb, ha, hr0⟩ := hrel
    by_cases hk8 : k < 8
    · have hk1 : (k : Int) < 8 := by omega
      have hk0 : 0 ≤ (k : Int) := by omega
      have hx := Eo h' hl'.out k hk8
      generalize hgx : h'.getD k 0 = x at hx
      replace hgx := Hy hgx
      have e24 : wn x / 16777216 % 256 = ((w8 x 24).toNat : Int) := by rw [show (16777216 : Int) = 2 ^ 24 by decide]; exact vA x 24
      have e16 : wn x / 65536 % 256 = ((w8 x 16).toNat : Int) := by rw [show (65536 : Int) = 2 ^ 16 by decide]; exact vA x 16
      have e8 : wn x / 256 % 256 = ((w8 x 8).toNat : Int) := by rw [show (256 : Int) = 2 ^ 8 by decide]; exact vA x 8
      have e0 : wn x % 256 = ((w8 x 0).toNat : Int) := by have := vA x 0; simpa using this
      have hp0 : 0 ≤ 4 * (k : Int) := by omega
      have hq0 : 4 * (k : Int) < 32 := by omega
      have hfz0 : wr.frozen? ⟨w4.heap.size, 4 * k, none⟩ = false := frozen_of_row _ _ _ _ _ ha
      have hcl0 := ha.get (4 * k) (by simp [eJ]; omega)
      go_upto_region 9 with fail
      replace hb := hb.setCell (p := ⟨w4.heap.size, 4 * k, none⟩) b4.size (bv (w8 x 24))
      replace ha := ha.set (4 * k) (bv (w8 x 24))
      rw [← List.map_set] at ha
      replace hr0 := hr0.other ⟨w4.heap.size, 4 * k, none⟩ (bv (w8 x 24)) (Nat.ne_of_lt z5.out)
      clear hp0 hq0 hfz0 hcl0
      generalize wr.setCell ⟨w4.heap.size, 4 * k, none⟩ (bv (w8 x 24)) = wr1 at *
      have hp1 : 0 ≤ 4 * (k : Int) + 1 := by omega
      have hq1 : 4 * (k : Int) + 1 < 32 := by omega
      have hfz1 : wr1.frozen? ⟨w4.heap.size, 4 * k + 1, none⟩ = false := frozen_of_row _ _ _ _ _ ha
      have hcl1 := ha.get (4 * k + 1) (by simp [eJ]; omega)
      go_upto_region 10 with fail
      replace hb := hb.setCell (p := ⟨w4.heap.size, 4 * k + 1, none⟩) b4.size (bv (w8 x 16))
      replace ha := ha.set (4 * k + 1) (bv (w8 x 16))
      rw [← List.map_set] at ha
      replace hr0 := hr0.other ⟨w4.heap.size, 4 * k + 1, none⟩ (bv (w8 x 16)) (Nat.ne_of_lt z5.out)
      clear hp1 hq1 hfz1 hcl1
      generalize wr1.setCell ⟨w4.heap.size, 4 * k + 1, none⟩ (bv (w8 x 16)) = wr2 at *
      have hp2 : 0 ≤ 4 * (k : Int) + 2 := by omega
      have hq2 : 4 * (k : Int) + 2 < 32 := by omega
      have hfz2 : wr2.frozen? ⟨w4.heap.size, 4 * k + 2, none⟩ = false := frozen_of_row _ _ _ _ _ ha
      have hcl2 := ha.get (4 * k + 2) (by simp [eJ]; omega)
      go_upto_region 11 with fail
      replace hb := hb.setCell (p := ⟨w4.heap.size, 4 * k + 2, none⟩) b4.size (bv (w8 x 8))
      replace ha := ha.set (4 * k + 2) (bv (w8 x 8))
      rw [← List.map_set] at ha
      replace hr0 := hr0.other ⟨w4.heap.size, 4 * k + 2, none⟩ (bv (w8 x 8)) (Nat.ne_of_lt z5.out)
      clear hp2 hq2 hfz2 hcl2
      generalize wr2.setCell ⟨w4.heap.size, 4 * k + 2, none⟩ (bv (w8 x 8)) = wr3 at *
      have hp3 : 0 ≤ 4 * (k : Int) + 3 := by omega
      have hq3 : 4 * (k : Int) + 3 < 32 := by omega
      have hfz3 : wr3.frozen? ⟨w4.heap.size, 4 * k + 3, none⟩ = false := frozen_of_row _ _ _ _ _ ha
      have hcl3 := ha.get (4 * k + 3) (by simp [eJ]; omega)
      go_wp2
      replace hb := hb.setCell (p := ⟨w4.heap.size, 4 * k + 3, none⟩) b4.size (bv (w8 x 0))
      replace ha := ha.set (4 * k + 3) (bv (w8 x 0))
      rw [← List.map_set] at ha
      replace hr0 := hr0.other ⟨w4.heap.size, 4 * k + 3, none⟩ (bv (w8 x 0)) (Nat.ne_of_lt z5.out)
      clear hp3 hq3 hfz3 hcl3
      refine ⟨⟨k + 1, by omega, rfl, hb, ?_, hr0⟩, ?_⟩
      · rw [pZ, hgx.out]; exact ha
      · simp [intOf]; omega
    · obtain rfl : k = 8 := by omega
      go_wp2_with (first
        | refine cZ ha rfl _ _ rfl rfl _ 32 (by rw [List.length_map, eJ]) SS rfl KR ?_
        | (refine aP hb hr0 OM rfl _ _ _ rfl rfl ((pZ h' 8).map bv) rfl 32 (by rw [List.length_map, eJ]) KR (by rw [List.size_toArray]; exact hzl.out) (by simp [Value.oneCell']) ?_
           intro w6 a6 b6 k6 z6))
      refine bodyPost_ret (results_cell_row rfl _ _ (w.heap.size + 1) _ _ (0, 0) _ rfl a6 SS rfl (by rw [List.size_toArray, List.length_map, eJ]; kernel_rfl)) rfl ⟨rfl, b6⟩
attribute [local go_sem high] eO gO gP iV
def uS (bs:List UInt8):List UInt8:=
 Mk (dW ((bs.length % 64+(gR bs.length+9)) / 64) (dW (bs.length / 64) kS bs) (bs.drop (64*(bs.length / 64))++jI bs.length))
theorem iQ (bs:List UInt8):(uS bs).length=32:=Cv _
def lW (bs:List UInt8):List UInt8:=uS (uS bs)
theorem fP (bs:List UInt8):(lW bs).length=32:=iQ _
theorem Si (bs : List UInt8) (B : Option Addr) (m c : Nat) (hm : bs.length = m) (hc : m ≤ c) (hm2 : m < 18446744073709551616) (w : World) (hr : Rd w B (bs.map bv)) (ht : fW w) :
    Calls prog 83 #[.slice B m c] w fun e w' => e = .returned (.agg (cK (uS bs))) ∧ Below w.heap.size w w' := by
  have hz := eK
  have hzl : (List.replicate 32 (0 : UInt8)).length = 32 := by simp
  obtain ⟨zs, hzs⟩ : ∃ zs : List UInt8, zs = List.replicate 32 0 := ⟨_, rfl⟩
  rw [← hzs] at hz hzl
  clear hzs
  replace hzl := Lib.hid hzl
  obtain ⟨ss, hss⟩ := Nm (uS bs)
  have hsl : ss.length = 32 := by rw [hss, iQ]
  rw [← hss]
  replace hss := Lib.hid hss
  replace hsl := Lib.hid hsl
  replace hm := Lib.hid hm
  go_enter func83, ntmps83
  have hb0 := (Below.refl w.heap.size w).alloc (Nat.le_refl _) (.cells (zs.map bv).toArray 35)
  have ha2 : Av (w.alloc (.cells (zs.map bv).toArray 35)) w.heap.size 35 (zs.map bv) := heap_alloc_new _ _
  go_wp2_with fail
  generalize w.alloc (.cells (zs.map bv).toArray 35) = w0 at *
  refine (Qh w0 (ht.b hb0)).mono ?_
  rintro e w1 ⟨rfl, b1⟩
  replace ha2 := ha2.b b1
  replace b1 := hb0.trans (b1.mono hb0.size)
  have HW := NP kS (by rw [kS, dE]) [] none 0 0 rfl (by omega) (Nat.le_refl _) 0 (by omega) (by omega) rfl bs B m c hm.out hc (.inl rfl) w1 (Rd.nil _ _) (hr.b b1) (ht.b b1)
  rw [List.nil_append, Nat.zero_add] at HW
  have e1 : IntKind.u64.wrap (0 + IntKind.u64.wrap (m : Int)) = (m : Int) := by rw [IntKind.wrap_u64, IntKind.wrap_u64]; omega
  rw [e1] at HW
  obtain ⟨h1, hh1⟩ := Nm (dW (m / 64) kS bs)
  have hl1 : h1.length = 8 := by rw [hh1, bQ _ _ _ (by rw [kS, dE])]
  rw [← hh1] at HW
  replace HW := Lib.hid HW
  replace hh1 := Lib.hid hh1
  replace hl1 := Lib.hid hl1
  clear e1 hb0
  go_wp2_with fail
  refine HW.out.mono ?_
  rintro e w2 ⟨A2, c2, rfl, hc2, hr2, b2⟩
  clear HW
  replace ha2 := ha2.b b2
  replace b2 := b1.trans (b2.mono b1.size)
  have HE := SA h1 hl1.out (bs.drop (64 * (m / 64))) A2 (m % 64) c2 (by rw [List.length_drop, hm.out]; omega) (by omega) hc2 m (by omega) rfl w2 hr2 (ht.b b2)
  rw [hh1.out] at HE
  have hss2 := hss.out
  rw [uS, hm.out] at hss2
  rw [← hss2, ← hh1.out] at HE
  replace HE := Lib.hid HE
  clear hss2
  go_wp2_with fail
  refine HE.out.mono ?_
  rintro e w3 ⟨rfl, b3⟩
  clear HE
  replace ha2 := ha2.b b3
  replace b3 := b2.trans (b3.mono b2.size)
  go_wp2_with (refine aP b3 ha2 (Nat.le_refl _) rfl _ _ _ rfl rfl (ss.map bv) rfl 32 (by rw [List.length_map, hsl.out]) (by kernel_rfl) (by rw [List.size_toArray, List.length_map]; exact hzl.out) (by simp [Value.oneCell']) ?_
               intro w6 a6 b6 k6 z6)
  refine bodyPost_ret (results_cell_row rfl _ _ w.heap.size _ _ (0, 0) _ rfl a6 SS rfl (by rw [List.size_toArray, List.length_map, hsl.out]; kernel_rfl)) rfl ⟨rfl, b6⟩
theorem Ep (bs : List UInt8) (B : Option Addr) (m c : Nat) (hm : bs.length = m) (hc : m ≤ c) (hm2 : m < 18446744073709551616) (w : World) (hr : Rd w B (bs.map bv)) (ht : fW w) :
    Calls prog 57 #[.slice B m c] w fun e w' => e = .returned (.agg (cK (lW bs))) ∧ Below w.heap.size w w' := by
  have hz := eK
  have hzl : (List.replicate 32 (0 : UInt8)).length = 32 := by simp
  obtain ⟨zs, hzs⟩ : ∃ zs : List UInt8, zs = List.replicate 32 0 := ⟨_, rfl⟩
  rw [← hzs] at hz hzl
  clear hzs
  replace hzl := Lib.hid hzl
  obtain ⟨ss, hss⟩ := Nm (uS bs)
  have hsl : ss.length = 32 := by rw [hss, iQ]
  rw [lW, ← hss]
  obtain ⟨dd, hdd⟩ := Nm (uS ss)
  have jM : dd.length = 32 := by rw [hdd, iQ]
  rw [← hdd]
  replace hss := Lib.hid hss
  replace hsl := Lib.hid hsl
  replace hdd := Lib.hid hdd
  replace jM := Lib.hid jM
  replace hm := Lib.hid hm
  go_enter func57, ntmps57
  have hb0 := (Below.refl w.heap.size w).alloc (Nat.le_refl _) (.cells (zs.map bv).toArray 35)
  have ha2 : Av (w.alloc (.cells (zs.map bv).toArray 35)) w.heap.size 35 (zs.map bv) := heap_alloc_new _ _
  go_wp2_with fail
  generalize w.alloc (.cells (zs.map bv).toArray 35) = w0 at *
  refine (Si bs B m c hm.out hc hm2 w0 (hr.b hb0) (ht.b hb0)).mono ?_
  rintro e w1 ⟨rfl, b1⟩
  rw [← hss.out]
  replace ha2 := ha2.b b1
  replace b1 := hb0.trans (b1.mono hb0.size)
  have q1 := Lib.hid ha2.lt
  go_wp2_with (refine aP (b1.alloc b1.size _) (heap_alloc_new _ _) b1.size rfl _ _ _ rfl rfl (ss.map bv) rfl 32 (by rw [List.length_map, hsl.out]) (by kernel_rfl) (by rw [List.size_toArray, List.length_map]; exact hzl.out) (by simp [Value.oneCell']) ?_
               intro w2 a3 b2 k2 z2
               replace z2 := Lib.hid z2
               replace ha2 := (ha2.alloc (.cells (zs.map bv).toArray 35)).same (k2 _ (Nat.ne_of_lt q1.out)))
  refine (Si ss _ 32 32 hsl.out (Nat.le_refl _) (by omega) w2 a3.rd (ht.b b2)).mono ?_
  rintro e w3 ⟨rfl, b3⟩
  rw [← hdd.out]
  replace ha2 := ha2.b b3
  replace b3 := b2.trans (b3.mono b2.size)
  go_wp2_with (refine aP b3 ha2 (Nat.le_refl _) rfl _ _ _ rfl rfl (dd.map bv) rfl 32 (by rw [List.length_map, jM.out]) (by kernel_rfl) (by rw [List.size_toArray, List.length_map]; exact hzl.out) (by simp [Value.oneCell']) ?_
               intro w6 a6 b6 k6 z6)
  refine bodyPost_ret (results_cell_row rfl _ _ w.heap.size _ _ (0, 0) _ rfl a6 SS rfl (by rw [List.size_toArray, List.length_map, jM.out]; kernel_rfl)) rfl ⟨rfl, b6⟩
end Go.Proofs.YtobjgebojhjhnaaGreatDoor
namespace Go.Proofs.YtobjgebojhjhnaaGreatDoor
open Go.RowKit
structure Hd where
 ver:Nat
 prev:List UInt8
 root:List UInt8
 time:Nat
 bits:Nat
 nonce:Nat
deriving DecidableEq
def Hd.ok (h:Hd):Prop:=h.ver<4294967296∧h.prev.length=32∧h.root.length=32∧h.time<4294967296∧h.bits<4294967296∧h.nonce<4294967296
def fC (h:Hd):List Value:=[.int .u32 (h.ver:Int)]++(h.prev.map bv++(h.root.map bv++ [.int .u32 (h.time:Int),.int .u32 (h.bits:Int),.int .u32 (h.nonce:Int)]))
def DZ (h:Hd):List UInt8:=Cm.lo 4 h.ver++(h.prev++(h.root++(Cm.lo 4 h.time++(Cm.lo 4 h.bits++Cm.lo 4 h.nonce))))
def dS (h:Hd):List UInt8:=lW (DZ h)
theorem fZ (h:Hd):(dS h).length=32:=fP _
theorem pN {h:Hd} (k:h.ok):(DZ h).length=80:=by
 obtain⟨_,h1,h2,_⟩:=k
 simp[DZ,Cm.lo_length,h1,h2]
theorem cJ {h:Hd} (k:h.ok):(fC h).length=68:=by
 obtain⟨_,h1,h2,_⟩:=k
 simp[fC,h1,h2]
theorem Bt (h:Hd):∀ u ∈ fC h,u.oneCell'=true:=by
 intro u hu
 simp only[fC,List.mem_append,List.mem_cons,List.not_mem_nil,or_false,List.mem_map] at hu
 rcases hu with rfl|⟨_,_,rfl⟩|⟨_,_,rfl⟩|rfl|rfl|rfl <;> rfl
theorem Bu {h:Hd} (k:h.ok):(fC h)[0]? =some (.int .u32 (h.ver:Int))∧(fC h)[65]? =some (.int .u32 (h.time:Int))∧(fC h)[66]? =some (.int .u32 (h.bits:Int))∧(fC h)[67]? =some (.int .u32 (h.nonce:Int)):=by
 obtain⟨_,h1,h2,_⟩:=k
 refine⟨rfl,?_,?_,?_⟩ <;>
 ·unfold fC
  rw[List.getElem?_append_right zS,List.getElem?_append_right (by simp[h1]),List.getElem?_append_right (by simp[h1,h2])]
  simp[h1,h2]
theorem Av.hd_prev {w:World} {g:Nat} {t:TypeId} {h:Hd} (a:Av w g t (fC h)):w.rangeAt g 1 (h.prev.map bv):=
 Av.rangeAt (pre:=[.int .u32 (h.ver:Int)]) (rest:=h.root.map bv++ [.int .u32 (h.time:Int),.int .u32 (h.bits:Int),.int .u32 (h.nonce:Int)]) (by simpa [fC] using a) 1 rfl
theorem Av.hd_root {w:World} {g:Nat} {t:TypeId} {h:Hd} (k:h.ok) (a:Av w g t (fC h)):w.rangeAt g 33 (h.root.map bv):=
 Av.rangeAt (pre:=[.int .u32 (h.ver:Int)]++h.prev.map bv) (rest:=[.int .u32 (h.time:Int),.int .u32 (h.bits:Int),.int .u32 (h.nonce:Int)]) (by simpa [fC] using a) 33 (by simp[k.2.1])
theorem nM {w:World} {g o:Nat} {cs:List Value} (h:w.rangeAt g o cs):Rd w (some ⟨g,o,none⟩) cs:=.inr ⟨g,o,rfl,fun j u hu=>h j u hu⟩
set_option maxRecDepth 100000
set_option maxHeartbeats 16000000
open Go.RowKit Tryz
theorem GW (n k:Nat):IntKind.u8.wrap ((n:Int) / 2 ^ (8*k))=((UInt8.ofNat (n / 256 ^ k)).toNat:Int):=by
 have h:=tR (n:Int) OM k
 rw[IntKind.wrap_u8,h]
 simp
theorem tU {P:Program} {w:World} {g:Nat} {t:TypeId} {l:List Value} (h:Av w g t l) {dT sT:TypeId} (elem:TypeId) (hu:P.underlying dT=some (.slice elem)) (hs:(P.info? elem).map (·.size)=some 1) (off dLen dCap:Nat) (A:Option Addr) (m c:Nat) (xs:List Value)
  (hr:Rd w A xs) (hl:xs.length=min m dLen) (hfit:off+xs.length≤l.length) (h1:∀ v ∈ xs,v.oneCell'=true) {ops:Array Oper} {rest:List Oper} {a:Act} {Q:Exit→Act→World→Prop} {d tp pos af} {x y:Operand}
  (hx:a.eval x= .slice (some ⟨g,off,none⟩) dLen dCap) (hy:a.eval y= .slice A m c)
  (k:∀ w',Av w' g t (l.take off++xs++l.drop (off+xs.length))→Fr (fun k=>k=g) w w'→wpList P ops Q rest (a.put d (goInt xs.length)) w'):
  wpList P ops Q (⟨d,.call {callee:=.builtin .copy,args:=#[x,y],argTypes:=#[dT,sT]},tp,pos,af,none⟩ :: rest) a w:=by
 obtain⟨w',hrun,h2,h3,_⟩:=Cq h dT sT elem hu hs off dLen dCap A m c xs hr hl hfit h1 ⟨d,.call {callee:=.builtin .copy,args:=#[x,y],argTypes:=#[dT,sT]},tp,pos,af,none⟩ x y rfl hx hy
 exact eF rfl hrun (k w' h2 h3)
theorem Mr (pre xs post:List Value) (N k o:Nat) (ho:pre.length=o) (hx:xs.length=4) (hk:k<4):
  (pre++((Cm.lo k N).map bv++(xs.drop k++post))).set (o+k) (bv (UInt8.ofNat (N / 256 ^ k)))=pre++((Cm.lo (k+1) N).map bv++(xs.drop (k+1)++post)):=by
 obtain⟨x,hx2⟩:∃ x,xs.drop k=x :: xs.drop (k+1):=by
  refine⟨xs[k]'OM,?_⟩
  rw[List.getElem_cons_drop]
 rw[hx2,Cm.lo_snoc,List.map_append,List.set_append_right _ _ OM,List.set_append_right _ _ (by simp[Cm.lo_length];omega)]
 simp[Cm.lo_length,← ho]
theorem QZ (g o n c:Nat) (t:TypeId) (pre xs post:List Value) (ho:pre.length=o) (hx:xs.length=4) (hn:4≤n) (N:Nat) (w:World) (hA:Av w g t (pre++(xs++post))):
  Calls prog 101 #[.slice (some ⟨g,o,none⟩) n c,.int .u32 (N:Int)] w fun e w'=>(∃ r,e= .returned r)∧Av w' g t (pre++((Cm.lo 4 N).map bv++post))∧Fr (fun k=>k=g) w w':=by
 go_enter func101,ntmps101
 go_wp2
 go_loopw [5] (fun i wr=>∃ k:Nat,k≤4∧i= .int .i64 (k:Int)∧Av wr g t (pre++((Cm.lo k N).map bv++(xs.drop k++post)))∧Fr (fun k=>k=g) w wr) (fun i _=>4 - (intOf i).toNat)
 case atStart=>exact⟨0,by omega,rfl,by simpa [Cm.lo] using hA,Fr.refl _ _⟩
 case round=>
  obtain⟨k,hk,rfl,ha,hf⟩:=hrel
  by_cases hlt:k<4
  ·have t1:decide ((k:Int)<4)=true:=by simp;omega
   have e1:IntKind.i64.wrap (8*(k:Int))=8*(k:Int):=by rw[IntKind.wrap_i64];omega
   have e2:0≤8*(k:Int):=by omega
   have e3:8*(k:Int)<32:=by omega
   have e4:(8*(k:Int)).toNat=8*k:=by omega
   have e5:=GW N k
   have e6:(k:Int)<(n:Int):=by omega
   have hlen:(pre++((Cm.lo k N).map bv++(xs.drop k++post))).length=pre.length+4+post.length:=by simp[Cm.lo_length,hx];omega
   obtain⟨C,hC⟩:=Nm (pre++((Cm.lo k N).map bv++(xs.drop k++post)))
   rw[← hC] at ha hlen
   have hset:=Mr pre xs post N k o ho hx hlt
   rw[← hC] at hset
   obtain⟨u,hu⟩:∃ u,C[o+k]? =some u:=⟨_,List.getElem?_eq_getElem OM⟩
   have hc:=ha.cell (o+k) u hu
   have hfz:=frozen_of_row wr g (o+k) _ _ ha
   have a2:=ha.set (o+k) (bv (UInt8.ofNat (N / 256 ^ k)))
   rw[hset] at a2
   have f2:=hf.trans (Fr.setCell wr ⟨g,o+k,none⟩ (bv (UInt8.ofNat (N / 256 ^ k))))
   replace hset:=Hy hset
   replace hC:=Hy hC
   replace hu:=Hy hu
   replace hlen:=Hy hlen
   go_wp2
   refine⟨⟨k+1,by omega,by go_num,a2,f2⟩,?_⟩
   simp[intOf];omega
  ·obtain rfl:k=4:=by omega
   go_wp2
   go_end0
   refine⟨⟨_,rfl⟩,?_,hf⟩
   rw[List.drop_eq_nil_of_le OM,List.nil_append] at ha
   exact ha
attribute [local go_sem high] eO gO gP
theorem Jr {α:Type} (a b x c:List α) (o:Nat) (ho:a.length=o) (hb:b.length=x.length):(a++(b++c)).take o++x++(a++(b++c)).drop (o+x.length)=a++(x++c):=by
 subst ho
 rw[List.take_left',List.drop_append,List.drop_append]
 ·simp[← hb]
 ·rfl
theorem CG:zeroCells166=((List.replicate 80 (0:UInt8)).map bv).toArray:=by kernel_rfl
theorem CH:(prog.info? 5).map (·.size)=some 1:=by kernel_rfl
theorem Js:(List.replicate 80 (0:UInt8)).map bv= []++((List.replicate 4 (0:UInt8)).map bv++((List.replicate 32 (0:UInt8)).map bv++((List.replicate 32 (0:UInt8)).map bv++((List.replicate 4 (0:UInt8)).map bv++((List.replicate 4 (0:UInt8)).map bv++(List.replicate 4 (0:UInt8)).map bv))))):=rfl
theorem Xc109 {p:Prop} (h:p:=by
 simpa only[List.append_assoc,List.append_nil,List.nil_append] using this):p:=h
theorem Qm (h:Hd) (k:h.ok) (w:World):
  Calls prog 68 #[.agg (fC h).toArray] w fun e w'=>e= .returned (.agg (cK (DZ h)))∧Below w.heap.size w w':=by
 have hz:=CG
 have hzl:(List.replicate 80 (0:UInt8)).length=80:=by simp
 have hzc:=Js
 obtain⟨zs,hzs⟩:∃ zs:List UInt8,zs=List.replicate 80 0:=⟨_,rfl⟩
 rw[← hzs] at hz hzl hzc
 clear hzs
 have l4:((List.replicate 4 (0:UInt8)).map bv).length=4:=rfl
 have l32:((List.replicate 32 (0:UInt8)).map bv).length=32:=rfl
 generalize (List.replicate 4 (0:UInt8)).map bv=Z4 at*
 generalize (List.replicate 32 (0:UInt8)).map bv=Z32 at*
 obtain⟨W,hW⟩:=Nm ((((w.alloc (.cells (fC h).toArray 37)).alloc (.cells (zs.map bv).toArray 166)).alloc (.cells (zs.map bv).toArray 166)))
 obtain⟨H,hH⟩:=Nm (w.heap.size)
 have bW:Below H w W:=by rw[hW,hH];exact(((Below.refl _ _).alloc LR _).alloc zS _).alloc zU _
 have aW:Av W H 37 (fC h):=by rw[hW,hH];exact Av.alloc (heap_alloc2_old _ _ _) _
 have rW:Av W (H+1) 166 (zs.map bv):=by rw[hW,hH];exact Av.alloc (heap_alloc2_new _ _ _) _
 have oW:Av W (H+2) 166 (zs.map bv):=by
  have e:∀ (v:World) (o:Obj),(v.alloc o).heap.size=v.heap.size+1:=fun v o=>by simp
  have:=heap_alloc_new ((w.alloc (.cells (fC h).toArray 37)).alloc (.cells (zs.map bv).toArray 166)) (.cells (zs.map bv).toArray 166)
  rw[e,e] at this
  rw[hW,hH];exact this
 rw[hzc] at oW
 obtain⟨c0,c3,c4,c5⟩:=Bu k
 have k1:(h.prev.map bv).length=32:=by rw[List.length_map,k.2.1]
 have k2:(h.root.map bv).length=32:=by rw[List.length_map,k.2.2.1]
 have hres:(DZ h).map bv=(Cm.lo 4 h.ver).map bv++(h.prev.map bv++(h.root.map bv++((Cm.lo 4 h.time).map bv++((Cm.lo 4 h.bits).map bv++(Cm.lo 4 h.nonce).map bv)))):=by simp[DZ]
 have hB80:=pN k
 have m4:∀ n,((Cm.lo 4 n).map bv).length=4:=fun n=>by rw[List.length_map,Cm.lo_length]
 obtain⟨V,hV⟩:=Nm (DZ h)
 rw[← hV] at hres hB80 ⊢
 have hN:∃ n0 n3 n4 n5:Nat,h.ver=n0∧h.time=n3∧h.bits=n4∧h.nonce=n5:=⟨_,_,_,_,rfl,rfl,rfl,rfl⟩
 obtain⟨n0,n3,n4,n5,e0,e3,e4,e5⟩:=hN
 rw[e0] at c0 hres
 rw[e3] at c3 hres
 rw[e4] at c4 hres
 rw[e5] at c5 hres
 replace hV:=Hy hV
 replace hW:=Hy hW
 replace hH:=Hy hH
 replace hzl:=Hy hzl
 replace hzc:=Hy hzc
 replace hres:=Hy hres
 replace l4:=Hy l4
 replace l32:=Hy l32
 replace k1:=Hy k1
 replace k2:=Hy k2
 replace m4:=Hy m4
 replace hB80:=Hy hB80
 clear e0 e3 e4 e5
 go_enter func68,ntmps68
 go_upto_region 2 with fail
 rw[← hW.out,← hH.out]
 have fr0:Fr (fun k=>k=H+2) W W:=Fr.refl _ _
 refine bL 3 [] cI KR KR KR KR KR cI.refl cI.trans zI ?_
 repeat refine ZP (fun w hw=>by have:=(((fr0.av aW OM).b hw.drew).cell 0 _ c0);exact zG) ?_
 refine bO fun v1 hv1=>aF ?_
 have g1:Av v1 (H+2) 166 ([]++(Z4++(Z32++(Z32++(Z4++(Z4++(Z4))))))):=by
  have:=oW.b hv1.drew
  exact Xc109
 have f1':Fr (fun k=>k=H+2) W v1:=fr0.trans (Below.fr hv1.drew)
 simp only[List.drop_succ_cons,List.drop_zero]
 go_upto_region 3 with (go_at_call 101;refine(QZ (H+2) 0 80 80 166 ([]) Z4 (Z32++(Z32++(Z4++(Z4++(Z4))))) (rfl) l4.out OM n0 v1 g1).mono ?_;rintro e w1 ⟨⟨r,rfl⟩,q1,x1⟩)
 have y1:Fr (fun k=>k=H+2) W w1:=f1'.trans x1
 have a1:Av w1 (H+2) 166 ((Cm.lo 4 n0).map bv++(Z32++(Z32++(Z4++(Z4++(Z4)))))):=by simpa only[List.append_assoc,List.append_nil,List.nil_append] using q1
 clear g1 q1 f1' x1
 go_wp2_with fail
 refine bL 3 [] cI KR KR KR KR KR cI.refl cI.trans zI ?_
 repeat refine ZQ ?_
 refine bO fun v2 hv2=>aF ?_
 have g2:Av v2 (H+2) 166 ((Cm.lo 4 n0).map bv++(Z32++(Z32++(Z4++(Z4++(Z4)))))):=by
  have:=a1.b hv2.drew
  exact Xc109
 have f2':Fr (fun k=>k=H+2) W v2:=y1.trans (Below.fr hv2.drew)
 simp only[List.drop_succ_cons,List.drop_zero]
 (refine tU g2 5 Tc CH 4 76 76 (some ⟨H,1,none⟩) 32 32 (h.prev.map bv) (nM (Av.hd_prev (f2'.av aW OM))) (k1.out) (by rw[k1.out];simp only[List.length_append,l4.out,l32.out,m4.out];omega) (by intro u hu;obtain⟨_,_,rfl⟩:=List.mem_map.1 hu;rfl) rfl rfl ?_;intro w2 q2 x2;rw[Jr _ _ _ _ 4 (by simp only[m4.out]) (by rw[l32.out,k1.out])] at q2)
 have y2:Fr (fun k=>k=H+2) W w2:=f2'.trans x2
 have a2:Av w2 (H+2) 166 ((Cm.lo 4 n0).map bv++(h.prev.map bv++(Z32++(Z4++(Z4++(Z4)))))):=by simpa only[List.append_assoc,List.append_nil,List.nil_append] using q2
 clear g2 q2 f2' x2
 go_wp2_with fail
 refine bL 3 [] cI KR KR KR KR KR cI.refl cI.trans zI ?_
 repeat refine ZQ ?_
 refine bO fun v3 hv3=>aF ?_
 have g3:Av v3 (H+2) 166 ((Cm.lo 4 n0).map bv++(h.prev.map bv)++(Z32++(Z4++(Z4++(Z4))))):=by
  have:=a2.b hv3.drew
  exact Xc109
 have f3':Fr (fun k=>k=H+2) W v3:=y2.trans (Below.fr hv3.drew)
 simp only[List.drop_succ_cons,List.drop_zero]
 (refine tU g3 5 Tc CH 36 44 44 (some ⟨H,33,none⟩) 32 32 (h.root.map bv) (nM (Av.hd_root k (f3'.av aW OM))) (k2.out) (by rw[k2.out];simp only[List.length_append,l4.out,l32.out,m4.out,k1.out];omega) (by intro u hu;obtain⟨_,_,rfl⟩:=List.mem_map.1 hu;rfl) rfl rfl ?_;intro w3 q3 x3;rw[Jr _ _ _ _ 36 (by simp only[List.length_append,k1.out,m4.out]) (by rw[l32.out,k2.out])] at q3)
 have y3:Fr (fun k=>k=H+2) W w3:=f3'.trans x3
 have a3:Av w3 (H+2) 166 ((Cm.lo 4 n0).map bv++(h.prev.map bv++(h.root.map bv++(Z4++(Z4++(Z4)))))):=by simpa only[List.append_assoc,List.append_nil,List.nil_append] using q3
 clear g3 q3 f3' x3
 go_wp2_with fail
 refine bL 3 [] cI KR KR KR KR KR cI.refl cI.trans zI ?_
 repeat refine ZP (fun w hw=>by have:=(((y3.av aW OM).b hw.drew).cell 65 _ c3);exact zG) ?_
 refine bO fun v4 hv4=>aF ?_
 have g4:Av v4 (H+2) 166 ((Cm.lo 4 n0).map bv++(h.prev.map bv++(h.root.map bv))++(Z4++(Z4++(Z4)))):=by
  have:=a3.b hv4.drew
  exact Xc109
 have f4':Fr (fun k=>k=H+2) W v4:=y3.trans (Below.fr hv4.drew)
 simp only[List.drop_succ_cons,List.drop_zero]
 go_upto_region 6 with (go_at_call 101;refine(QZ (H+2) 68 12 12 166 ((Cm.lo 4 n0).map bv++(h.prev.map bv++(h.root.map bv))) Z4 (Z4++(Z4)) (by simp only[List.length_append,k1.out,k2.out,m4.out]) l4.out OM n3 v4 g4).mono ?_;rintro e w4 ⟨⟨r,rfl⟩,q4,x4⟩)
 have y4:Fr (fun k=>k=H+2) W w4:=f4'.trans x4
 have a4:Av w4 (H+2) 166 ((Cm.lo 4 n0).map bv++(h.prev.map bv++(h.root.map bv++((Cm.lo 4 n3).map bv++(Z4++(Z4)))))):=by simpa only[List.append_assoc,List.append_nil,List.nil_append] using q4
 clear g4 q4 f4' x4
 go_wp2_with fail
 refine bL 3 [] cI KR KR KR KR KR cI.refl cI.trans zI ?_
 repeat refine ZP (fun w hw=>by have:=(((y4.av aW OM).b hw.drew).cell 66 _ c4);exact zG) ?_
 refine bO fun v5 hv5=>aF ?_
 have g5:Av v5 (H+2) 166 ((Cm.lo 4 n0).map bv++(h.prev.map bv++(h.root.map bv++((Cm.lo 4 n3).map bv)))++(Z4++(Z4))):=by
  have:=a4.b hv5.drew
  exact Xc109
 have f5':Fr (fun k=>k=H+2) W v5:=y4.trans (Below.fr hv5.drew)
 simp only[List.drop_succ_cons,List.drop_zero]
 go_upto_region 7 with (go_at_call 101;refine(QZ (H+2) 72 8 8 166 ((Cm.lo 4 n0).map bv++(h.prev.map bv++(h.root.map bv++((Cm.lo 4 n3).map bv)))) Z4 (Z4) (by simp only[List.length_append,k1.out,k2.out,m4.out]) l4.out OM n4 v5 g5).mono ?_;rintro e w5 ⟨⟨r,rfl⟩,q5,x5⟩)
 have y5:Fr (fun k=>k=H+2) W w5:=f5'.trans x5
 have a5:Av w5 (H+2) 166 ((Cm.lo 4 n0).map bv++(h.prev.map bv++(h.root.map bv++((Cm.lo 4 n3).map bv++((Cm.lo 4 n4).map bv++(Z4)))))):=by simpa only[List.append_assoc,List.append_nil,List.nil_append] using q5
 clear g5 q5 f5' x5
 go_wp2_with fail
 refine bL 3 [] cI KR KR KR KR KR cI.refl cI.trans zI ?_
 repeat refine ZP (fun w hw=>by have:=(((y5.av aW OM).b hw.drew).cell 67 _ c5);exact zG) ?_
 refine bO fun v6 hv6=>aF ?_
 have g6:Av v6 (H+2) 166 ((Cm.lo 4 n0).map bv++(h.prev.map bv++(h.root.map bv++((Cm.lo 4 n3).map bv++((Cm.lo 4 n4).map bv))))++(Z4++([]))):=by
  have:=a5.b hv6.drew
  exact Xc109
 have f6':Fr (fun k=>k=H+2) W v6:=y5.trans (Below.fr hv6.drew)
 simp only[List.drop_succ_cons,List.drop_zero]
 go_upto_region 8 with (go_at_call 101;refine(QZ (H+2) 76 4 4 166 ((Cm.lo 4 n0).map bv++(h.prev.map bv++(h.root.map bv++((Cm.lo 4 n3).map bv++((Cm.lo 4 n4).map bv))))) Z4 ([]) (by simp only[List.length_append,k1.out,k2.out,m4.out]) l4.out OM n5 v6 g6).mono ?_;rintro e w6 ⟨⟨r,rfl⟩,q6,x6⟩)
 have y6:Fr (fun k=>k=H+2) W w6:=f6'.trans x6
 have a6:Av w6 (H+2) 166 ((Cm.lo 4 n0).map bv++(h.prev.map bv++(h.root.map bv++((Cm.lo 4 n3).map bv++((Cm.lo 4 n4).map bv++((Cm.lo 4 n5).map bv)))))):=by simpa only[List.append_assoc,List.append_nil,List.nil_append] using q6
 clear g6 q6 f6' x6
 rw[← hres.out] at a6
 have b6:Below H w w6:=bW.trans (y6.b (fun k hk=>by omega) (by rw[hH.out];exact bW.size))
 have r6:=y6.av rW OM
 have hV80:(V.map bv).length=80:=by rw[List.length_map,hB80.out]
 go_wp2_with (first
  |((with_reducible refine LF a6 80 hV80 underlying166 ?_ ?_);rfl)
  |((with_reducible refine dR 166 b6 r6 (Nat.le_succ _) (V.map bv) ?_ ?_ 80 hV80 ?_ ?_ ?_ ?_);rfl;rfl;kernel_rfl;(rw[List.length_map];exact hzl.out);(simp[Value.oneCell']);intro w7 a7 b7 k7 z7))
 refine bodyPost_ret (results_cell_row rfl _ _ (H+1) _ _ (0,0) _ bM a7 underlying166 rfl (by rw[List.size_toArray,hV80];kernel_rfl)) rfl ⟨rfl,?_⟩
 rw[← hH.out]
 exact b7
theorem OJ (h:Hd) (k:h.ok) (w:World) (ht:fW w):
  Calls prog 44 #[.agg (fC h).toArray] w fun e w'=>e= .returned (.agg (cK (dS h)))∧Below w.heap.size w w':=by
 have hz:=CG
 have hzl:(List.replicate 80 (0:UInt8)).length=80:=by simp
 obtain⟨zs,hzs⟩:∃ zs:List UInt8,zs=List.replicate 80 0:=⟨_,rfl⟩
 rw[← hzs] at hz hzl
 clear hzs
 have HA:=Hy (Qm h k)
 have hV80:((DZ h).map bv).length=80:=by rw[List.length_map,pN k]
 have h68:=cJ k
 have yz:=eK
 have yl:(List.replicate 32 (0:UInt8)).length=32:=by simp
 obtain⟨ys,hys⟩:∃ zs:List UInt8,zs=List.replicate 32 0:=⟨_,rfl⟩
 rw[← hys] at yz yl
 clear hys
 obtain⟨V,hV⟩:=Nm (DZ h)
 rw[← hV] at HA hV80
 rw[dS,← hV]
 obtain⟨dd,hdd⟩:=Nm (lW V)
 have jM:dd.length=32:=by rw[hdd,fP]
 rw[← hdd]
 have HD:=fun A w' q t=>Ep V A 80 80 (by rw[← hV80,List.length_map]) LR OM w' q t
 rw[← hdd] at HD
 replace HD:=Hy HD
 obtain⟨W,hW⟩:=Nm ((w.alloc (.cells (fC h).toArray 37)).alloc (.cells (ys.map bv).toArray 35))
 obtain⟨H,hH⟩:=Nm (w.heap.size)
 have bW:Below w.heap.size w W:=by rw[hW];exact((Below.refl _ _).alloc LR _).alloc zS _
 have aW:Av W H 37 (fC h):=by rw[hW,hH];exact heap_alloc2_old _ _ _
 have rW:Av W (H+1) 35 (ys.map bv):=by rw[hW,hH];exact heap_alloc2_new _ _ _
 replace hV:=Hy hV
 replace hW:=Hy hW
 replace hH:=Hy hH
 replace hzl:=Hy hzl
 replace yl:=Hy yl
 replace hdd:=Hy hdd
 replace jM:=Hy jM
 replace hV80:=Hy hV80
 replace h68:=Hy h68
 go_enter func44,ntmps44
 go_upto_region 1 with fail
 rw[← hW.out,← hH.out]
 go_upto_region 2 with (first
  |((with_reducible refine LF aW 68 h68.out Tb ?_ ?_);rfl)
  |(go_at_call 68;refine(HA.out _).mono ?_;rintro e w1 ⟨rfl,b1⟩)
  |((with_reducible refine bF 166 ((Below.refl w1.heap.size w1).alloc LR _) (heap_alloc_new _ _) LR (V.map bv) ?_ ?_ 80 hV80.out ?_ ?_ ?_ ?_);rfl;rfl;kernel_rfl;(rw[List.size_toArray,List.length_map];exact hzl.out);(simp[Value.oneCell']);intro w2 a2 b2 k2 z2;clear k2;replace z2:=Hy z2))
 have bw2:Below w.heap.size w w2:=bW.trans ((b1.trans (b2.mono b1.size)).mono bW.size)
 have a2r:=a2.rd
 have r2:=(rW.b b1).b b2
 have hH1:w.heap.size≤H+1:=by rw[hH.out];omega
 go_wp2_with fail
 refine(HD.out _ w2 a2r (ht.b bw2)).mono ?_
 rintro e w3 ⟨rfl,b3⟩
 have bw3:=bw2.trans (b3.mono bw2.size)
 have r3:=r2.b b3
 go_wp2_with ((with_reducible refine dR 35 bw3 r3 hH1 (dd.map bv) ?_ ?_ 32 ?_ ?_ ?_ ?_ ?_);rfl;rfl;(rw[List.length_map,jM.out]);kernel_rfl;(rw[List.length_map];exact yl.out);(simp[Value.oneCell']);intro w6 a6 b6 k6 z6)
 refine bodyPost_ret (results_cell_row rfl _ _ (H+1) _ _ (0,0) _ bM a6 SS rfl (by rw[List.size_toArray,List.length_map,jM.out];kernel_rfl)) rfl ⟨rfl,b6⟩
end Go.Proofs.YtobjgebojhjhnaaGreatDoor
