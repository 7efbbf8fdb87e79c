import Derived.Test.YtobjgebojhjhnaaGreatDoorBss
import Derived.Deep.Cut
namespace Go.Proofs.YtobjgebojhjhnaaGreatDoor
set_option maxRecDepth 100000
set_option maxHeartbeats 16000000
open Go.RowKit Tryz
theorem Jz (a b:List UInt8) (A B:Option Addr) (n m c d:Nat) (ha:a.length=n) (hb:b.length=m) (w:World) (ra:Rd w A (a.map bv)) (rb:Rd w B (b.map bv)) (q:Bool) (hq:(a==b)=q):
  Calls prog 34 #[.slice A n c,.slice B m d] w fun e w'=>e= .returned (.bool q)∧w=w':=by
 have h1:=wJ ra ha c
 have h2:=wJ rb hb d
 clear ra rb ha hb
 cases q
 ·have hq1:(a==b)=false:=hq
  clear hq
  go_enter func34,ntmps34
  go_wp2
  go_ret
  exact⟨rfl,rfl⟩
 ·obtain rfl:=eq_of_beq hq
  clear hq
  go_enter func34,ntmps34
  go_wp2
  go_ret
  exact⟨rfl,rfl⟩
theorem EF (ver lock : Nat) (l : List (lI × Sl)) (m : List (fA × Sl)) (A1 A2 : Option Addr) (n1 n2 c1 c2 : Nat) (hn1 : l.length = n1) (hn2 : m.length = n2) (hm1 : n1 ≤ 100000) (hm2 : n2 ≤ 100000) (S : List (List UInt8 × Sl)) (As : Option Addr) (ns cs : Nat) (hns : S.length = ns) (hms : ns ≤ 100000)
    (Hs : List (List UInt8)) (Ah : Option Addr) (nh ch : Nat) (hnh : Hs.length = nh) (hmh : nh ≤ 100000) (w : World) (h1 : fB w A1 l) (h2 : dH w A2 m) (rs : dU w As S) (rh : fD w Ah Hs) (b : Bool) (hb : Eb (cQ ver l m lock) (S.map (·.1)) Hs = b) :
    Calls prog 38 #[.agg #[.int .u32 (ver : Int), .slice A1 n1 c1, .slice A2 n2 c2, .int .u32 (lock : Int)], .slice As ns cs, .slice Ah nh ch] w fun e w' => e = .returned (.bool b) ∧ Below w.heap.size w w' := by
  obtain ⟨W, hW⟩ := Nm (w.alloc (.cells #[.int .u32 (ver : Int), .slice A1 n1 c1, .slice A2 n2 c2, .int .u32 (lock : Int)] 63))
  obtain ⟨H, hH⟩ := Nm (w.heap.size)
  have bW : Below H w W := by rw [hW, hH]; exact (Below.refl _ _).alloc LR _
  have aW : Av W H 63 [.int .u32 (ver : Int), .slice A1 n1 c1, .slice A2 n2 c2, .int .u32 (lock : Int)] := by rw [hW, hH]; exact heap_alloc_new _ _
  replace hn1 := Hy hn1
  replace hn2 := Hy hn2
  replace hns := Hy hns
  replace hnh := Hy hnh
  replace hW := Hy hW
  replace hH := Hy hH
  replace hb := Hy hb
  have q2 := aW.cell 2 _ rfl
  go_enter func38, ntmps38
  go_upto_region 1 with fail
  rw [← hW.out, ← hH.out]
  go_wp2
  clear q2
  go_loopw [18] (fun i wr => ∃ k : Nat, k ≤ n2 ∧ i = .int .i64 (k : Int) ∧ Hid (∀ e ∈ m.take k, ∀ s ∈ S, e.1.scr ≠ s.1) ∧ Av wr H 63 [.int .u32 (ver : Int), .slice A1 n1 c1, .slice A2 n2 c2, .int .u32 (lock : Int)] ∧ Below H w wr) (fun i _ => n2 - (intOf i).toNat)
  case atStart => exact ⟨0, by omega, rfl, Hy zS, aW, bW⟩
  case round =>
    clear aW bW
    obtain ⟨k, hk, rfl, hall, aw, bw⟩ := hrel
    have bw0 : Below w.heap.size w wr := by rw [← hH.out]; exact bw
    have hHs : H ≤ wr.heap.size := by have := aw.lt; omega
    by_cases hlt : k < n2
    · have t4 : decide ((k : Int) < (n2 : Int)) = true := by simp; omega
      obtain ⟨x, hx⟩ : ∃ x, m[k]? = some x := ⟨_, List.getElem?_eq_getElem (by rw [hn2.out]; exact hlt)⟩
      obtain ⟨b1, o1, rfl⟩ := h2.adr (by rw [hn2.out]; omega)
      obtain ⟨hrx, hix⟩ := (h2.b bw0).nth k x hx
      have hone := nV (uA x)
      have eB := iS x
      obtain ⟨cx, hcx⟩ := Nm (kB x)
      rw [← hcx] at hrx hone eB
      obtain ⟨xs, hxs⟩ := Nm (x.1.scr)
      obtain ⟨xl, hxl⟩ := Nm (x.1.scr.length)
      have hxl2 : xs.length = xl := by rw [hxs, hxl]
      have i1 : cx[1]? = some (.slice x.2.1 xl x.2.2) := by rw [hcx, hxl]; rfl
      have hsx := hix.2.1
      rw [← hxs] at hsx
      have m0 : 0 ≤ (k : Int) := by omega
      have m1 : (k : Int) < (n2 : Int) := by omega
      clear hix hxl
      replace hx := Hy hx
      replace hcx := Hy hcx
      replace hxs := Hy hxs
      replace hxl2 := Hy hxl2
      replace i1 := Hy i1
      go_upto_region 4 with (first
        | ((with_reducible refine fO 94 (b := b1) (off := o1 + k * 2) cx hrx ?_ _ TB ?_ ?_ ?_); rfl; rfl; (rw [eB]; kernel_rfl))
        | ((with_reducible refine bF 94 ((Below.refl wr.heap.size wr).alloc LR _) (heap_alloc_new _ _) LR cx ?_ ?_ 2 eB ?_ ?_ hone ?_); rfl; rfl; kernel_rfl; rfl
           intro w3 a3 b3 k3 z3; clear k3; replace z3 := Hy z3))
      have y1 := a3.cell 1 _ i1.out
      have bw3 := bw0.trans (b3.mono bw0.size)
      have aw3 := aw.b b3
      have hsx3 := hsx.b b3
      have rs3 := rs.b bw3
      clear hrx hone eB b3 a3 aw hsx
      go_wp2_with fail
      go_loop [24, 10] (fun i _ => ∃ j : Nat, j ≤ ns ∧ i = .int .i64 (j : Int) ∧ Hid (∀ s ∈ S.take j, xs ≠ s.1)) (fun i _ => ns - (intOf i).toNat)
      case atStart => exact ⟨0, by omega, rfl, Hy zS⟩
      case round =>
        obtain ⟨j, hj, rfl, hin⟩ := hrel
        by_cases hlt2 : j < ns
        · have t5 : decide ((j : Int) < (ns : Int)) = true := by simp; omega
          obtain ⟨s, hs⟩ : ∃ s, S[j]? = some s := ⟨_, List.getElem?_eq_getElem (by rw [hns.out]; exact hlt2)⟩
          obtain ⟨b2, o2, rfl⟩ := rs3.adr (by rw [hns.out]; omega)
          obtain ⟨hc, hrs, _⟩ := rs3.nth j s hs
          obtain ⟨sl, hsl⟩ := Nm (s.1.length)
          rw [BE, ← hsl] at hc
          obtain ⟨q, hq⟩ : ∃ q, (xs == s.1) = q := ⟨_, rfl⟩
          have HE := Hy (Jz xs s.1 x.2.1 s.2.1 xl sl x.2.2 s.2.2 hxl2.out hsl.symm w3 hsx3 hrs q hq)
          have m2 : 0 ≤ (j : Int) := by omega
          have m3 : (j : Int) < (ns : Int) := by omega
          replace hs := Hy hs
          replace hsl := Hy hsl
          replace hq := Hy hq
          cases q
          · go_wp2_with (go_at_call 34; refine (HE.out).mono ?_; rintro e w4 ⟨rfl, rfl⟩)
            go_round
            case rel =>
              refine ⟨j + 1, by omega, by go_num, Hy ?_⟩
              intro s' hs'
              rcases dJ hs.out hs' with h | rfl
              · exact hin.out s' h
              · exact fun e => by have := hq.out; rw [e] at this; simp at this
            case measure => simp [intOf]; omega
          · obtain rfl : b = true := by
              rw [← hb.out, Eb, Bool.or_eq_true]
              refine .inl (CU (o := x.1) (s := s.1) (List.mem_map.2 ⟨x, List.mem_of_getElem? hx.out, rfl⟩) (List.mem_map.2 ⟨s, List.mem_of_getElem? hs.out, rfl⟩) ?_)
              rw [← hxs.out]
              exact eq_of_beq hq.out
            go_wp2_with (go_at_call 34; refine (HE.out).mono ?_; rintro e w4 ⟨rfl, rfl⟩)
            go_ret
            exact ⟨rfl, bw3⟩
        · obtain rfl : ns = j := by omega
          have t5 : decide ((ns : Int) < (ns : Int)) = false := by simp
          go_wp2
          refine ⟨⟨k + 1, by omega, by go_num, Hy ?_, aw3, by rw [hH.out]; exact bw3⟩, ?_⟩
          · intro e he s hs
            rcases dJ hx.out he with h | rfl
            · exact hall.out e h s hs
            · rw [← hxs.out]
              exact hin.out s (by rw [List.take_of_length_le (by rw [hns.out]; omega)]; exact hs)
          · simp [intOf]; omega
    · obtain rfl : n2 = k := by omega
      have t4 : decide ((n2 : Int) < (n2 : Int)) = false := by simp
      have hno : CS (m.map (·.1)) (S.map (·.1)) = false := by
        refine Gb fun o ho s hs => ?_
        obtain ⟨e, he, rfl⟩ := List.mem_map.1 ho
        obtain ⟨f, hf, rfl⟩ := List.mem_map.1 hs
        exact hall.out e (by rw [List.take_of_length_le (by rw [hn2.out]; omega)]; exact he) f hf
      replace hno := Hy hno
      clear hall
      have q1 := aw.cell 1 _ rfl
      have aw' := Hy aw
      have bw' := Hy bw
      clear aw bw
      go_wp2
      clear q1 bw0
      go_loopw [37] (fun i wr => ∃ k : Nat, k ≤ n1 ∧ i = .int .i64 (k : Int) ∧ Hid (∀ e ∈ l.take k, ∀ s ∈ Hs, e.1.prev ≠ s) ∧ Below H w wr) (fun i _ => n1 - (intOf i).toNat)
      case atStart => exact ⟨0, by omega, rfl, Hy zS, bw'.out⟩
      case round =>
        clear aw' bw'
        obtain ⟨k, hk, rfl, hall, bw⟩ := hrel
        have bw0 : Below w.heap.size w wr := by rw [← hH.out]; exact bw
        by_cases hlt : k < n1
        · have t4 : decide ((k : Int) < (n1 : Int)) = true := by simp; omega
          obtain ⟨x, hx⟩ : ∃ x, l[k]? = some x := ⟨_, List.getElem?_eq_getElem (by rw [hn1.out]; exact hlt)⟩
          obtain ⟨b1, o1, rfl⟩ := h1.adr (by rw [hn1.out]; omega)
          obtain ⟨hrx, hix⟩ := (h1.b bw0).nth k x hx
          have hone := nV (tY x)
          have eB := iR hix
          obtain ⟨cx, hcx⟩ := Nm (sB x)
          have hcx2 : cx = x.1.prev.map bv ++ [.int .u32 (x.1.idx : Int), BE x.1.scr.length x.2, .int .u32 (x.1.seq : Int)] := hcx
          rw [← hcx] at hrx hone eB
          have hp32 : x.1.prev.length = 32 := hix.1.1
          obtain ⟨xp, hxp⟩ := Nm (x.1.prev)
          rw [← hxp] at hcx2 hp32
          have m0 : 0 ≤ (k : Int) := by omega
          have m1 : (k : Int) < (n1 : Int) := by omega
          clear hix
          replace hx := Hy hx
          replace hcx := Hy hcx
          replace hcx2 := Hy hcx2
          replace hxp := Hy hxp
          replace hp32 := Hy hp32
          go_upto_region 14 with (first
            | ((with_reducible refine fO 91 (b := b1) (off := o1 + k * 35) cx hrx ?_ _ TA ?_ ?_ ?_); rfl; rfl; (rw [eB]; kernel_rfl))
            | ((with_reducible refine bF 91 ((Below.refl wr.heap.size wr).alloc LR _) (heap_alloc_new _ _) LR cx ?_ ?_ 35 eB ?_ ?_ hone ?_); rfl; rfl; kernel_rfl; rfl
               intro w3 a3 b3 k3 z3; clear k3; replace z3 := Hy z3))
          obtain ⟨G, hG⟩ := Nm (wr.heap.size)
          rw [← hG] at a3 ⊢
          have bw3 := bw0.trans (b3.mono bw0.size)
          clear hrx hone eB b3
          replace hG := Hy hG
          obtain ⟨wo, rfl⟩ := Nm (wr)
          go_wp2_with fail
          go_loopw [43] (fun i wq => ∃ j : Nat, j ≤ nh ∧ i = .int .i64 (j : Int) ∧ Hid (∀ s ∈ Hs.take j, xp ≠ s) ∧ Av wq G 91 cx ∧ Below w.heap.size w wq) (fun i _ => nh - (intOf i).toNat)
          case atStart => exact ⟨0, by omega, rfl, Hy zS, a3, bw3⟩
          case round =>
            clear a3 bw3 z3
            obtain ⟨j, hj, rfl, hin, aq, bq⟩ := hrel
            by_cases hlt2 : j < nh
            · have t5 : decide ((j : Int) < (nh : Int)) = true := by simp; omega
              obtain ⟨s, hs⟩ : ∃ s, Hs[j]? = some s := ⟨_, List.getElem?_eq_getElem (by rw [hnh.out]; exact hlt2)⟩
              obtain ⟨b2, o2, rfl⟩ := rh.adr (by rw [hnh.out]; omega)
              have hrs := (rh.b bq).nth j s hs
              have hs32 : s.length = 32 := rh.2 s (List.mem_of_getElem? hs)
              have hsl : (s.map bv).length = 32 := by rw [List.length_map, hs32]
              have hso := nV (l := s.map bv) (dB s)
              have m2 : 0 ≤ (j : Int) := by omega
              have m3 : (j : Int) < (nh : Int) := by omega
              have hgq := aq.lt
              have heq := Ol xp s hp32.out hs32
              obtain ⟨q, hq⟩ : ∃ q, (xp == s) = q := ⟨_, rfl⟩
              rw [hq] at heq
              replace hs := Hy hs
              replace hq := Hy hq
              replace hs32 := Hy hs32
              obtain ⟨ss, hss⟩ := Nm (s.map bv)
              rw [← hss] at hrs hsl hso heq
              replace hss := Hy hss
              go_upto_region 17 with (first
                | ((with_reducible refine fO 35 (b := b2) (off := o2 + j * 32) ss hrs ?_ _ SS ?_ ?_ ?_); rfl; rfl; (rw [hsl]; kernel_rfl))
                | ((with_reducible refine bF 35 ((Below.refl wr.heap.size wr).alloc LR _) (heap_alloc_new _ _) LR ss ?_ ?_ 32 hsl ?_ ?_ hso ?_); rfl; rfl; kernel_rfl; rfl
                   intro w4 a4 b4 k4 z4; clear k4; replace z4 := Hy z4))
              have bq4 := bq.trans (b4.mono bq.size)
              have aq4 := aq.b b4
              have hrp : w4.rangeAt G 0 (xp.map bv) := by
                have h := aq4
                rw [hcx2.out] at h
                exact Av.rangeAt (pre := []) h 0 rfl
              have a4' := a4
              clear hrs hso b4 aq bq z4
              replace aq4 := Hy aq4
              cases q
              · go_wp2_with (first
                  | ((with_reducible refine fO 35 (b := G) (off := 0) (xp.map bv) hrp ?_ _ SS ?_ ?_ ?_); rfl; rfl; (rw [List.length_map, hp32.out]; kernel_rfl))
                  | ((with_reducible refine LF a4' 32 hsl SS ?_ ?_);rfl))
                refine ⟨⟨j + 1, by omega, by go_num, Hy ?_, aq4.out, bq4⟩, ?_⟩
                · intro s' hs'
                  rcases dJ hs.out hs' with h | rfl
                  · exact hin.out s' h
                  · exact fun e => by have := hq.out; rw [e] at this; simp at this
                · simp [intOf]; omega
              · obtain rfl : b = true := by
                  rw [← hb.out, Eb, Bool.or_eq_true]
                  refine .inr (CV (i := x.1) (x := s) (List.mem_map.2 ⟨x, List.mem_of_getElem? hx.out, rfl⟩) (List.mem_of_getElem? hs.out) ?_)
                  rw [← hxp.out]
                  exact eq_of_beq hq.out
                go_wp2_with (first
                  | ((with_reducible refine fO 35 (b := G) (off := 0) (xp.map bv) hrp ?_ _ SS ?_ ?_ ?_); rfl; rfl; (rw [List.length_map, hp32.out]; kernel_rfl))
                  | ((with_reducible refine LF a4' 32 hsl SS ?_ ?_);rfl))
                go_ret
                exact ⟨rfl, bq4⟩
            · obtain rfl : nh = j := by omega
              have t5 : decide ((nh : Int) < (nh : Int)) = false := by simp
              go_wp2
              refine ⟨⟨k + 1, by omega, by go_num, Hy ?_, by rw [hH.out]; exact bq⟩, ?_⟩
              · intro e he s hs
                rcases dJ hx.out he with h | rfl
                · exact hall.out e h s hs
                · rw [← hxp.out]
                  exact hin.out s (by rw [List.take_of_length_le (by rw [hnh.out]; omega)]; exact hs)
              · simp [intOf]; omega
        · obtain rfl : n1 = k := by omega
          have t4 : decide ((n1 : Int) < (n1 : Int)) = false := by simp
          obtain rfl : b = false := by
            rw [← hb.out, Eb, cQ, hno.out, Bool.false_or]
            refine Gc fun o ho s hs => ?_
            obtain ⟨e, he, rfl⟩ := List.mem_map.1 ho
            exact hall.out e (by rw [List.take_of_length_le (by rw [hn1.out]; omega)]; exact he) s hs
          go_wp2
          go_ret
          exact ⟨rfl, bw0⟩
end Go.Proofs.YtobjgebojhjhnaaGreatDoor
