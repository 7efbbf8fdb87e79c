import Derived.Test.YtobjgebojhjhnaaGreatDoorQr4
import Derived.Laws.Tables
import Derived.Test.YtobjgebojhjhnaaGreatDoorQr3
namespace Go.Proofs.YtobjgebojhjhnaaGreatDoor
open Go.RowKit
theorem Rd.piece {α:Type} {w:World} {b off:Nat} (f:α→List Value) (n:Nat):∀ (l:List α) (_:∀ e ∈ l,(f e).length=n) (_:Rd w (some ⟨b,off,none⟩) (l.flatMap f)) (k:Nat) (e:α) (_:l[k]? =some e),w.rangeAt b (off+k*n) (f e)
 | [],_,_,k,e,hk=>by simp at hk
 |x :: l,hl,hr,0,e,hk=>by
  obtain rfl:x=e:=by simpa using hk
  intro j v hv
  rcases hr with h|⟨b',o',hA,hc⟩
  ·rw[List.flatMap_cons] at h
   rw[(List.append_eq_nil_iff.1 h).1] at hv
   simp at hv
  ·cases hA
   have hj:=(List.getElem?_eq_some_iff.1 hv).1
   have:=hc j v (by rw[List.flatMap_cons,List.getElem?_append_left hj];exact hv)
   rw[Nat.zero_mul,Nat.add_zero]
   exact this
 |x :: l,hl,hr,k+1,e,hk=>by
  have hx:=hl x (List.mem_cons_self ..)
  have h2:=hr.drop n
  rw[List.flatMap_cons,List.drop_append,List.drop_of_length_le (by rw[hx];exact Nat.le_refl _),hx,Nat.sub_self,List.drop_zero,List.nil_append] at h2
  have:=Rd.piece f n l (fun e he=>hl e (List.mem_cons_of_mem _ he)) h2 k e (by simpa using hk)
  rw[show off+(k+1)*n=off+n+k*n by rw[Nat.add_mul,Nat.one_mul];omega]
  exact this
theorem eW {α β:Type} (f:α→List β) (n:Nat):∀ (l:List α) (_:∀ e ∈ l,(f e).length=n),(l.flatMap f).length=l.length*n
 | [],_=>by simp
 |x :: l,h=>by
  rw[List.flatMap_cons,List.length_append,h x (List.mem_cons_self ..),eW f n l fun e he=>h e (List.mem_cons_of_mem _ he),List.length_cons,Nat.add_mul,Nat.one_mul,Nat.add_comm]
theorem vC (off:Nat):∀ (xs old pre post:List Value) (k:Nat),old.length=xs.length→pre.length=off+k→
  (xs.zipIdx k).foldl (fun (cs:Array Value) (p:Value × Nat)=>cs.setIfInBounds (off+p.2) p.1) (pre++(old++post)).toArray=(pre++(xs++post)).toArray
 | [],old,pre,post,k,h,_=>by
  have:old= []:=List.eq_nil_of_length_eq_zero h
  subst this
  rfl
 |x :: xs,[],pre,post,k,h,_=>by simp at h
 |x :: xs,y :: old,pre,post,k,h,hp=>by
  simp only[List.zipIdx_cons,List.foldl_cons]
  have e:(pre++(y :: old++post)).toArray.setIfInBounds (off+k) x=((pre++ [x])++(old++post)).toArray:=by
   rw[List.setIfInBounds_toArray,← hp,List.set_append_right _ _ LR]
   simp
  rw[e,vC off xs old (pre++ [x]) post (k+1) (by simpa using h) zU]
  simp
theorem dA {place:Nat→Option (Nat × Nat)} (pre old xs post:List Value) {i off size:Nat} {v:Value} {rest:List (Nat × Value)} (hp:place i=some (off,size)) (hv:v.cells=xs.toArray) (hx:xs.length=size) (ho:pre.length=off) (hl:old.length=size):
  Instr.fill place (pre++(old++post)).toArray ((i,v) :: rest)=Instr.fill place (pre++(xs++post)).toArray rest:=by
 rw[Instr.fill,hp]
 simp only
 rw[if_neg (by rw[hv];simp[hx];omega),hv]
 congr 1
 have:=vC off xs old pre post 0 OM OM
 rw[← this]
 simp
theorem fL {P:Program} {t:TypeId} {fields:Array Field} {z:Value} {places:List (Nat × Nat)} {parts:List (Nat × Value)} (hu:P.underlying t=some (.struct fields)) (hz:(P.info? t).map (·.zero)=some (some z))
  (hp:fields.toList.mapM (fun f=>(P.info? f.type).map fun i=>(f.offset,i.size))=some places):P.built t parts=Instr.fill (places.toArray[·]?) z.cells parts:=by
 obtain⟨i,hi,hzi⟩:=Option.map_eq_some_iff.1 hz
 unfold Program.built
 rw[hi,hu]
 simp only[hzi,hp]
theorem dC {P:Program} {t:TypeId} {cs:List Value} {w:World} {o:Oper} {ρ:Operand→Value} {ops:List (Nat × Operand)} (ho:o.op= .build t ops.toArray) (h:P.built t (ops.map fun p=>(p.1,ρ p.2))=some cs.toArray):(execOp ρ o).run P w= .ok (.value (.agg cs.toArray)) w:=by
 have:=run_build (P:=P) w t (ops.map fun p=>(p.1,ρ p.2)).toArray cs.toArray (by simpa using h)
 unfold execOp
 simp only[ho,List.map_toArray]
 simp only[Sem.run_bind,this,Result.andThen_ok]
 rfl
structure lI where
 prev:List UInt8
 idx:Nat
 scr:List UInt8
 seq:Nat
structure fA where
 val:Nat
 scr:List UInt8
structure FZ where
 ver:Nat
 ins:List lI
 outs:List fA
 lock:Nat
def lI.ok (i:lI):Prop:=i.prev.length=32∧i.idx<4294967296∧i.seq<4294967296
def fA.ok (o:fA):Prop:=o.val<18446744073709551616
def Mx (i:lI):List UInt8:=i.prev++(Cm.lo 4 i.idx++((Cm.put i.scr.length++i.scr)++Cm.lo 4 i.seq))
def vD (o:fA):List UInt8:=Cm.lo 8 o.val++(Cm.put o.scr.length++o.scr)
def yT (t:FZ):List UInt8:=Cm.lo 4 t.ver++(Cm.put t.ins.length++(t.ins.flatMap Mx++(Cm.put t.outs.length++(t.outs.flatMap vD++Cm.lo 4 t.lock))))
def fN (t:FZ):Bool:=decide (1≤t.ins.length) && decide (t.ins.length≤1000) && decide (t.outs.length≤1000) && (t.ins.all fun i=>decide (i.scr.length≤10000)) && (t.outs.all fun o=>decide (o.scr.length≤10000))
abbrev Sl:=Option Addr × Nat
abbrev BE (n:Nat) (s:Sl):Value:=.slice s.1 n s.2
def sB (e:lI × Sl):List Value:=e.1.prev.map bv++ [.int .u32 (e.1.idx:Int),BE e.1.scr.length e.2,.int .u32 (e.1.seq:Int)]
def kB (e:fA × Sl):List Value:=[.int .u64 (e.1.val:Int),BE e.1.scr.length e.2]
def OL (l:List (lI × Sl)):List Value:=l.flatMap sB
def PO (l:List (fA × Sl)):List Value:=l.flatMap kB
def BF (w:World) (e:lI × Sl):Prop:=e.1.ok∧Rd w e.2.1 (e.1.scr.map bv)∧e.1.scr.length≤e.2.2
def xB (w:World) (e:fA × Sl):Prop:=e.1.ok∧Rd w e.2.1 (e.1.scr.map bv)∧e.1.scr.length≤e.2.2
theorem BF.b {w w':World} {e:lI × Sl} (h:BF w e) (b:Below w.heap.size w w'):BF w' e:=⟨h.1,h.2.1.b b,h.2.2⟩
theorem xB.b {w w':World} {e:fA × Sl} (h:xB w e) (b:Below w.heap.size w w'):xB w' e:=⟨h.1,h.2.1.b b,h.2.2⟩
theorem iR {w:World} {e:lI × Sl} (h:BF w e):(sB e).length=35:=by simp[sB,h.1.1]
theorem iS (e:fA × Sl):(kB e).length=2:=rfl
theorem tY (e:lI × Sl):∀ u ∈ sB e,u.oneCell'=true:=by
 intro u hu
 simp only[sB,List.mem_append,List.mem_cons,List.not_mem_nil,or_false] at hu
 rcases hu with hu|rfl|rfl|rfl
 ·exact dB _ u hu
 all_goals rfl
theorem uA (e:fA × Sl):∀ u ∈ kB e,u.oneCell'=true:=by
 intro u hu
 simp only[kB,List.mem_cons,List.not_mem_nil,or_false] at hu
 rcases hu with rfl|rfl <;> rfl
def fB (w:World) (A:Option Addr) (l:List (lI × Sl)):Prop:=Rd w A (OL l)∧ ∀ e ∈ l,BF w e
def dH (w:World) (A:Option Addr) (l:List (fA × Sl)):Prop:=Rd w A (PO l)∧ ∀ e ∈ l,xB w e
theorem fB.b {w w':World} {A:Option Addr} {l:List (lI × Sl)} (h:fB w A l) (b:Below w.heap.size w w'):fB w' A l:=⟨h.1.b b,fun e he=>(h.2 e he).b b⟩
theorem dH.b {w w':World} {A:Option Addr} {l:List (fA × Sl)} (h:dH w A l) (b:Below w.heap.size w w'):dH w' A l:=⟨h.1.b b,fun e he=>(h.2 e he).b b⟩
theorem fB.adr {w:World} {A:Option Addr} {l:List (lI × Sl)} (h:fB w A l) (hl:0<l.length):∃ b off,A=some ⟨b,off,none⟩:=by
 rcases h.1 with e|⟨b,off,e,_⟩
 ·have:=eW sB 35 l fun e he=>iR (h.2 e he)
  rw[OL] at e;rw[e] at this;simp at this;omega
 ·exact⟨b,off,e⟩
theorem dH.adr {w:World} {A:Option Addr} {l:List (fA × Sl)} (h:dH w A l) (hl:0<l.length):∃ b off,A=some ⟨b,off,none⟩:=by
 rcases h.1 with e|⟨b,off,e,_⟩
 ·have:=eW kB 2 l fun e _=>iS e
  rw[PO] at e;rw[e] at this;simp at this;omega
 ·exact⟨b,off,e⟩
theorem fB.nth {w:World} {b off:Nat} {l:List (lI × Sl)} (h:fB w (some ⟨b,off,none⟩) l) (k:Nat) (e:lI × Sl) (hk:l[k]? =some e):w.rangeAt b (off+k*35) (sB e)∧BF w e:=
 ⟨Rd.piece sB 35 l (fun e he=>iR (h.2 e he)) h.1 k e hk,h.2 e (List.mem_of_getElem? hk)⟩
theorem dH.nth {w:World} {b off:Nat} {l:List (fA × Sl)} (h:dH w (some ⟨b,off,none⟩) l) (k:Nat) (e:fA × Sl) (hk:l[k]? =some e):w.rangeAt b (off+k*2) (kB e)∧xB w e:=
 ⟨Rd.piece kB 2 l (fun e _=>iS e) h.1 k e hk,h.2 e (List.mem_of_getElem? hk)⟩
def cQ (ver:Nat) (l:List (lI × Sl)) (m:List (fA × Sl)) (lock:Nat):FZ:=⟨ver,l.map (·.1),m.map (·.1),lock⟩
theorem ED (i:lI) (h:i.prev.length=32) (hs:i.scr.length≤10000):(Mx i).length≤10049:=by
 have:=Cm.size_le i.scr.length
 simp only[Mx,List.length_append,Cm.lo_length,Cm.put_length,h];omega
theorem BG (o:fA) (hs:o.scr.length≤10000):(vD o).length≤10017:=by
 have:=Cm.size_le o.scr.length
 simp only[vD,List.length_append,Cm.lo_length,Cm.put_length];omega
theorem BH {α β:Type} (f:α→List β) (n:Nat):∀ (l:List α) (_:∀ e ∈ l,(f e).length≤n),(l.flatMap f).length≤l.length*n
 | [],_=>by simp
 |x :: l,h=>by
  have h1:=h x (List.mem_cons_self ..)
  have h2:=BH f n l fun e he=>h e (List.mem_cons_of_mem _ he)
  rw[List.flatMap_cons,List.length_append,List.length_cons,Nat.add_mul,Nat.one_mul]
  omega
theorem mC.keep {g base:Nat} {w w':World} {v v':Value} {bs':List UInt8} (h:mC g base w v w' v' bs') (x:Nat) (hx:x<w.heap.size) (hg:x≠g) (hv:v.ownBlock≠some x):w'.heap[x]? =w.heap[x]? ∧v'.ownBlock≠some x:=by
 refine⟨h.fr.block x hx (fun e=>e.elim hg hv),fun e=>?_⟩
 rcases h.row with e'|⟨q,e',hq⟩
 ·exact hv (e'.symm.trans e)
 ·rw[e'] at e;injection e;omega
set_option maxRecDepth 100000
set_option maxHeartbeats 16000000
open Go.RowKit Tryz
theorem uU {w:World} {e:lI × Sl} (h:BF w e):(sB e)[32]? =some (.int .u32 (e.1.idx:Int))∧(sB e)[33]? =some (BE e.1.scr.length e.2)∧(sB e)[34]? =some (.int .u32 (e.1.seq:Int)):=by
 have hl:(e.1.prev.map bv).length=32:=by rw[List.length_map];exact h.1.1
 refine⟨?_,?_,?_⟩
 all_goals
  rw[sB,List.getElem?_append_right (by rw[hl];omega),hl]
  rfl
theorem nV {l:List Value} (h:∀ u ∈ l,u.oneCell'=true):l.all (·.oneCell')=true:=List.all_eq_true.2 h
theorem BI:(prog.info? 91).map (·.size)=some 35:=by kernel_rfl
theorem xC:(prog.info? 94).map (·.size)=some 2:=by kernel_rfl
theorem iE (t:FZ):fN t=true↔(1≤t.ins.length∧t.ins.length≤1000∧t.outs.length≤1000)∧(∀ i ∈ t.ins,i.scr.length≤10000)∧ ∀ o ∈ t.outs,o.scr.length≤10000:=by
 simp only[fN,Bool.and_eq_true,decide_eq_true_eq,List.all_eq_true]
 constructor
 ·rintro⟨⟨⟨⟨a,b⟩,c⟩,d⟩,e⟩;exact⟨⟨a,b,c⟩,d,e⟩
 ·rintro⟨⟨a,b,c⟩,d,e⟩;exact⟨⟨⟨⟨a,b⟩,c⟩,d⟩,e⟩
theorem dJ {α:Type} {l:List α} {k:Nat} {e:α} (hk:l[k]? =some e) {x:α} (hx:x ∈ l.take (k+1)):x ∈ l.take k∨x=e:=by
 rw[List.take_add_one,hk] at hx
 rcases List.mem_append.1 hx with h|h
 ·exact .inl h
 ·exact .inr (by simpa using h)
theorem NS (ver lock : Nat) (l : List (lI × Sl)) (m : List (fA × Sl)) (A1 A2 : Option Addr) (n1 n2 c1 c2 : Nat) (hn1 : l.length = n1) (hn2 : m.length = n2) (w : World) (h1 : fB w A1 l) (h2 : dH w A2 m) :
    Calls prog 37 #[.agg #[.int .u32 (ver : Int), .slice A1 n1 c1, .slice A2 n2 c2, .int .u32 (lock : Int)]] w fun e w' => e = .returned (.bool (fN (cQ ver l m lock))) ∧ Below w.heap.size w w' := by
  obtain ⟨b, hb⟩ := Nm (fN (cQ ver l m lock))
  have hsane := iE (cQ ver l m lock)
  simp only [cQ, List.length_map, hn1, hn2, List.forall_mem_map] at hsane
  rw [← hb]
  rw [show FZ.mk ver (l.map (·.1)) (m.map (·.1)) lock = cQ ver l m lock from rfl, ← hb] at hsane
  clear hb
  replace hn1 := Hy hn1
  replace hn2 := Hy hn2
  by_cases hnum : 1 ≤ n1 ∧ n1 ≤ 1000 ∧ n2 ≤ 1000
  · obtain ⟨q1, q2, q3⟩ := hnum
    have t1 : decide ((n1 : Int) < 1) = false := by simp; omega
    have t2 : decide ((1000 : Int) < (n1 : Int)) = false := by simp; omega
    have t3 : decide ((1000 : Int) < (n2 : Int)) = false := by simp; omega
    replace hsane := Hy hsane
    go_enter func37, ntmps37
    go_wp2
    go_loopw [4, 26] (fun _ i wr => ∃ k : Nat, k ≤ n1 ∧ i = .int .i64 (k : Int) ∧ Hid (∀ e ∈ l.take k, e.1.scr.length ≤ 10000) ∧ Av wr w.heap.size 63 [.int .u32 (ver : Int), .slice A1 n1 c1, .slice A2 n2 c2, .int .u32 (lock : Int)] ∧ Below w.heap.size w wr) (fun _ i _ => n1 - (intOf i).toNat)
    case atStart => exact ⟨0, by omega, rfl, Hy zS, heap_alloc_new _ _, (Below.refl _ _).alloc LR _⟩
    case round =>
      obtain ⟨k, hk, rfl, hall, hav, hbw⟩ := hrel
      by_cases hlt : k < n1
      · have t4 : decide ((k : Int) < (n1 : Int)) = true := by simp; omega
        obtain ⟨e, he⟩ : ∃ e, l[k]? = some e := ⟨_, List.getElem?_eq_getElem (by rw [hn1.out]; exact hlt)⟩
        obtain ⟨b1, off, rfl⟩ := h1.adr (by rw [hn1.out]; omega)
        obtain ⟨hrng, hin⟩ := (h1.b hbw).nth k e he
        obtain ⟨i32, i33, i34⟩ := uU hin
        have eB := iR hin
        have hone := nV (tY e)
        obtain ⟨q, hq⟩ : ∃ q, e.1.scr.length = q := ⟨_, rfl⟩
        rw [hq] at i33
        obtain ⟨cs, cK⟩ := Nm (sB e)
        rw [← cK] at hrng eB hone i33
        have m0 : 0 ≤ (k : Int) := by omega
        have m1 : (k : Int) < (n1 : Int) := by omega
        replace i33 := Hy i33
        replace he := Hy he
        replace hq := Hy hq
        clear i32 i34 cK hin
        by_cases hq1 : q ≤ 10000
        · have t5 : decide ((10000 : Int) < (q : Int)) = false := by simp; omega
          go_wp2_with (first
            | refine wpList_load_mid rfl _ _ rfl b1 (off + k * 35) rfl cs _ hrng TA rfl (by rw [eB]; exact BI) ?_
            | (refine aP (hbw.alloc hbw.size _) (heap_alloc_new _ _) hbw.size rfl _ _ _ rfl rfl cs rfl 35 eB KR rfl hone ?_
               intro w3 a3 b3 k3 z3
               have cq := a3.cell 33 _ i33.out))
          refine ⟨⟨k + 1, by omega, by go_num, Hy ?_, ?_, b3⟩, ?_⟩
          · intro e' he'
            rcases dJ he.out he' with h | rfl
            · exact hall.out e' h
            · rw [hq.out]; exact hq1
          · exact (hav.alloc _).same (k3 w.heap.size (by have := hav.lt; omega))
          · simp [intOf]; omega
        · have t5 : decide ((10000 : Int) < (q : Int)) = true := by simp; omega
          go_wp2_with (first
            | refine wpList_load_mid rfl _ _ rfl b1 (off + k * 35) rfl cs _ hrng TA rfl (by rw [eB]; exact BI) ?_
            | (refine aP (hbw.alloc hbw.size _) (heap_alloc_new _ _) hbw.size rfl _ _ _ rfl rfl cs rfl 35 eB KR rfl hone ?_
               intro w3 a3 b3 k3 z3
               have cq := a3.cell 33 _ i33.out))
          go_ret
          refine ⟨?_, b3⟩
          have : b = false := by
            cases b
            · rfl
            · have := (hsane.out.1 rfl).2.1 e (List.mem_of_getElem? he.out)
              rw [hq.out] at this
              exact absurd this hq1
          rw [this]; rfl
      · obtain rfl : k = n1 := by omega
        have t4 : decide ((k : Int) < (k : Int)) = false := by simp
        have hc := hav.cell 2 _ rfl
        go_wp2
        go_loopw [6, 38] (fun _ i wr => ∃ k : Nat, k ≤ n2 ∧ i = .int .i64 (k : Int) ∧ Hid (∀ e ∈ m.take k, e.1.scr.length ≤ 10000) ∧ Below w.heap.size w wr) (fun _ i _ => n2 - (intOf i).toNat)
        case atStart => exact ⟨0, by omega, rfl, Hy zS, hbw⟩
        case round =>
          clear hc hav hbw
          obtain ⟨j, hj, rfl, hall2, hbw⟩ := hrel
          by_cases hlt2 : j < n2
          · have t4 : decide ((j : Int) < (n2 : Int)) = true := by simp; omega
            obtain ⟨e, he⟩ : ∃ e, m[j]? = some e := ⟨_, List.getElem?_eq_getElem (by rw [hn2.out]; exact hlt2)⟩
            obtain ⟨b1, off, rfl⟩ := h2.adr (by rw [hn2.out]; omega)
            obtain ⟨hrng, hin⟩ := (h2.b hbw).nth j e he
            have hone := nV (uA e)
            obtain ⟨q, hq⟩ : ∃ q, e.1.scr.length = q := ⟨_, rfl⟩
            have i33 : (kB e)[1]? = some (BE q e.2) := by rw [← hq]; rfl
            have eB := iS e
            obtain ⟨cs, cK⟩ := Nm (kB e)
            rw [← cK] at hrng hone i33 eB
            have m0 : 0 ≤ (j : Int) := by omega
            have m1 : (j : Int) < (n2 : Int) := by omega
            replace i33 := Hy i33
            replace he := Hy he
            replace hq := Hy hq
            clear cK hin
            by_cases hq1 : q ≤ 10000
            · have t5 : decide ((10000 : Int) < (q : Int)) = false := by simp; omega
              go_wp2_with (first
                | refine wpList_load_mid rfl _ _ rfl b1 (off + j * 2) rfl cs _ hrng TB rfl (by rw [eB]; exact xC) ?_
                | (refine aP (hbw.alloc hbw.size _) (heap_alloc_new _ _) hbw.size rfl _ _ _ rfl rfl cs rfl 2 eB KR rfl hone ?_
                   intro w3 a3 b3 k3 z3
                   have cq := a3.cell 1 _ i33.out))
              refine ⟨⟨j + 1, by omega, by go_num, Hy ?_, b3⟩, ?_⟩
              · intro e' he'
                rcases dJ he.out he' with h | rfl
                · exact hall2.out e' h
                · rw [hq.out]; exact hq1
              · simp [intOf]; omega
            · have t5 : decide ((10000 : Int) < (q : Int)) = true := by simp; omega
              go_wp2_with (first
                | refine wpList_load_mid rfl _ _ rfl b1 (off + j * 2) rfl cs _ hrng TB rfl (by rw [eB]; exact xC) ?_
                | (refine aP (hbw.alloc hbw.size _) (heap_alloc_new _ _) hbw.size rfl _ _ _ rfl rfl cs rfl 2 eB KR rfl hone ?_
                   intro w3 a3 b3 k3 z3
                   have cq := a3.cell 1 _ i33.out))
              go_ret
              refine ⟨?_, b3⟩
              have : b = false := by
                cases b
                · rfl
                · have := (hsane.out.1 rfl).2.2 e (List.mem_of_getElem? he.out)
                  rw [hq.out] at this
                  exact absurd this hq1
              rw [this]; rfl
          · obtain rfl : j = n2 := by omega
            have t4 : decide ((j : Int) < (j : Int)) = false := by simp
            go_wp2
            go_ret
            refine ⟨?_, hbw⟩
            have : b = true := by
              refine hsane.out.2 ⟨⟨q1, q2, q3⟩, fun e he => hall.out e ?_, fun e he => hall2.out e ?_⟩
              · rw [List.take_of_length_le (by rw [hn1.out]; omega)]; exact he
              · rw [List.take_of_length_le (by rw [hn2.out]; omega)]; exact he
            rw [this]; rfl
  · have : b = false := by
      cases b
      · rfl
      · exact absurd (hsane.1 rfl).1 hnum
    subst this
    clear hsane h1 h2
    by_cases q1 : n1 < 1
    · have t1 : decide ((n1 : Int) < 1) = true := by simp; omega
      go_enter func37, ntmps37
      go_wp2
      go_ret
      exact ⟨rfl, (Below.refl _ _).alloc LR _⟩
    · have t1 : decide ((n1 : Int) < 1) = false := by simp; omega
      by_cases q2 : 1000 < n1
      · have t2 : decide ((1000 : Int) < (n1 : Int)) = true := by simp; omega
        go_enter func37, ntmps37
        go_wp2
        go_ret
        exact ⟨rfl, (Below.refl _ _).alloc LR _⟩
      · have t2 : decide ((1000 : Int) < (n1 : Int)) = false := by simp; omega
        have t3 : decide ((1000 : Int) < (n2 : Int)) = true := by simp; omega
        go_enter func37, ntmps37
        go_wp2
        go_ret
        exact ⟨rfl, (Below.refl _ _).alloc LR _⟩
theorem Xm140 {p q:Prop} (k:q) (h:Hid q→p:=by
 intro hk
 simp only[List.set_cons_succ,List.set_cons_zero,List.drop_succ_cons,List.drop_zero]
 exact hk.out):p:=h (Hy k)
theorem Gk (n:Int) (h0:0≤n) (sz:Nat) (hsz:sz≤8) (g base:Nat) (w:World) (v:Value) (bs:List UInt8) (hB:Ed w g base v bs) (hbase:base≤w.heap.size) (hlen:bs.length≤1000000000000):
  Calls prog 79 #[.int .u64 n,.int .i64 (sz:Int),.pointer (some ⟨g,0,none⟩)] w fun e w'=>(∃ r,e= .returned r)∧∃ v',mC g base w v w' v' (bs++Cm.lo sz n.toNat):=by
 go_enter func79,ntmps79
 go_wp2
 go_loopw [5,7] (fun _ i wr=>∃ (k:Nat) (v':Value),k≤sz∧i= .int .i64 (k:Int)∧mC g base w v wr v' (bs++Cm.lo k n.toNat)) (fun _ i _=>sz - (intOf i).toNat)
 case atStart=>exact⟨0,v,by omega,rfl,by simpa [Cm.lo] using hB.to⟩
 case round=>
  obtain⟨k,v',hk,rfl,hb⟩:=hrel
  by_cases hlt:k<sz
  ·have t1:decide ((k:Int)<(sz:Int))=true:=by simp;omega
   obtain⟨x,hx⟩:=Nm (UInt8.ofNat (n.toNat / 256 ^ k))
   have hby:=tR n h0 k
   rw[← hx] at hby
   have hll:(bs++Cm.lo k n.toNat).length≤1000000000008:=by rw[List.length_append,Cm.lo_length];omega
   replace hx:=Hy hx
   obtain⟨cs,cK⟩:=Nm (bs++Cm.lo k n.toNat)
   rw[← cK] at hb hll
   replace cK:=Hy cK
   have e1:IntKind.i64.wrap (8*(k:Int))=8*(k:Int):=by rw[IntKind.wrap_i64];omega
   have e2:0≤8*(k:Int):=by omega
   have e3:8*(k:Int)<64:=by omega
   have e4:(8*(k:Int)).toNat=8*k:=by omega
   go_wp2_with fail
   refine bL 7 [(6,Ee [bv x])] cI KR KR KR KR KR cI.refl cI.trans (by intro p hp v w w' hR;simp only[List.mem_singleton] at hp;subst hp;exact Ee.mono hR) ?_
   refine ZP (c:=v') (fun w hw=>by have:=(hb.buf.av.b hw.drew).cell 0 _ rfl;go_simp;first|done|rfl) ?_
   refine ZM ?_
   refine ZM ?_
   refine ZQ ?_
   refine ZP (c:=.int .u64 (n / 2 ^ (8*k))) vR ?_
   refine ZP (c:=.int .u8 (x.toNat:Int)) (fun w hw=>by go_simp;rw[IntKind.wrap_u8,hby]) ?_
   refine cO _ rfl (fun w hw=>aM rfl (bI rfl ?_)) ?_
   ·go_simp
    exact⟨(Below.refl _ _).alloc LR _,_,rfl,Rd.one _ _ _⟩
   refine bO fun w2 hw2=>aC rfl rfl fun u hu=>aF ?_
   refine Xm140 ?_
   obtain⟨D,rfl,hrb⟩:=hu
   have hb1:=hb.b hw2.drew
   have hb2:=hb1.buf
   have hbase2:base≤w2.heap.size:=Nat.le_trans hbase hb1.fr.size
   go_wp2_with (at_builtin;refine nI hb2.own hbase2 (bs:=[x]) 1 1 hrb rfl OM rfl (.tmp 10) (.tmp 16) rfl rfl rfl ?_;intro v3 w3 o3 gr3 ob3;obtain⟨q3,A3,c3,rfl⟩:=o3.formE;have q1:=hb2.av.same (gr3.block _ hb2.av.lt (fun e=>hb2.ne e.symm));have qc:=q1.cell 0 _ rfl;have qf:=frozen_of_row _ _ 0 _ _ q1)
   have hb3:=hb1.trans (hb2.app o3 gr3 ob3)
   refine⟨⟨k+1,.slice A3 q3 c3,by omega,by go_num,?_⟩,?_⟩
   ·rw[cK.out,List.append_assoc,hx.out,← Cm.lo_snoc] at hb3
    exact hb3
   ·simp[intOf];omega
  ·obtain rfl:k=sz:=by omega
   have t1:decide ((k:Int)<(k:Int))=false:=by simp
   go_wp2
   go_end0
   refine⟨⟨_,rfl⟩,v',hb⟩
theorem JX (n:Nat) (hn:n≤1000000) (g base:Nat) (w:World) (v:Value) (bs:List UInt8) (hB:Ed w g base v bs) (hbase:base≤w.heap.size) (hlen:bs.length≤1000000000000):
  Calls prog 80 #[.int .i64 (n:Int),.pointer (some ⟨g,0,none⟩)] w fun e w'=>(∃ r,e= .returned r)∧∃ v',mC g base w v w' v' (bs++Cm.put n):=by
 have n0:0≤(n:Int):=by omega
 have e1:IntKind.u64.wrap (n:Int)=(n:Int):=by rw[IntKind.wrap_u64];omega
 obtain⟨p,hp⟩:=Nm (Cm.put n)
 have HP:=Hy (fun w=>De [] none 0 0 (n:Int) n0 p (by rw[hp];rfl) w (Rd.nil _ _) rfl OM)
 have hpl:p.length≤9:=by rw[hp,Cm.put_length];exact(Cm.size_le n).2
 rw[← hp]
 clear hp
 obtain⟨m,hm⟩:∃ m,p.length=m:=⟨_,rfl⟩
 rw[hm] at hpl
 replace hm:=Hy hm
 go_enter func80,ntmps80
 go_wp2_with fail
 refine bL 4 [(3,NM p)] cI KR KR KR KR KR cI.refl cI.trans (by intro p hp v w w' hR;simp only[List.mem_singleton] at hp;subst hp;exact NM.mono hR) ?_
 repeat refine ZP (fun w hw=>by have:=(hB.av.b hw.drew).cell 0 _ rfl;exact zG) ?_
 refine AV _ rfl rfl rfl 81 #[.slice none 0 0,.int .u64 (n:Int)] (fun w=>by go_simp) (fun w hw=>(HP.out w).mono ?_) ?_
 ·rintro e w' ⟨u,rfl,ho,hb⟩
  exact⟨_,rfl,hb,NM.own ho⟩
 refine bO fun w2 hw2=>aC rfl rfl fun u hu=>aF ?_
 refine Xm140 ?_
 obtain⟨D,c,rfl,hrb⟩:=hu
 rw[hm.out]
 have hb1:=hB.to.b hw2.drew
 have hb2:=hb1.buf
 have hbase2:base≤w2.heap.size:=Nat.le_trans hbase hb1.fr.size
 go_wp2_with (at_builtin;refine nI hb2.own hbase2 m c hrb hm.out OM rfl (.tmp 3) (.tmp 6) rfl rfl rfl ?_;intro v3 w3 o3 gr3 ob3;obtain⟨q3,A3,c3,rfl⟩:=o3.formE;have q1:=hb2.av.same (gr3.block _ hb2.av.lt (fun e=>hb2.ne e.symm));have qc:=q1.cell 0 _ rfl;have qf:=frozen_of_row _ _ 0 _ _ q1)
 go_end0
 refine⟨⟨_,rfl⟩,.slice A3 q3 c3,hb1.trans (hb2.app o3 gr3 ob3)⟩
theorem NY (s:List UInt8) (A:Option Addr) (n c:Nat) (hs:s.length=n) (hn:n≤1000000) (g6 g base:Nat) (w:World) (v:Value) (bs:List UInt8) (hr:Rd w A (s.map bv)) (hA:s≠ []→ ∀ a,A=some a→a.block≠g∧v.ownBlock≠some a.block)
  (h6:Av w g6 185 [.func (.func 80) #[] #[.pointer (some ⟨g,0,none⟩)]]) (hB:Ed w g base v bs) (hbase:base≤w.heap.size) (hlen:bs.length≤100000000000):
  Calls prog 82 #[.slice A n c,.pointer (some ⟨g6,0,none⟩),.pointer (some ⟨g,0,none⟩)] w fun e w'=>(∃ r,e= .returned r)∧∃ v',mC g base w v w' v' (bs++(Cm.put n++s)):=by
 have HP:=Hy (JX n hn g base w v bs hB hbase OM)
 have c6:=h6.cell 0 _ rfl
 have hpl:(Cm.put n).length≤9:=by rw[Cm.put_length];exact(Cm.size_le n).2
 obtain⟨p,hp⟩:=Nm (Cm.put n)
 rw[← hp] at HP hpl ⊢
 clear hp
 replace hs:=Hy hs
 go_enter func82,ntmps82
 go_wp2_with fail
 refine(HP.out).mono ?_
 rintro e w2 ⟨⟨r,rfl⟩,v2,hb1⟩
 have hb2:=hb1.buf
 have hbase2:base≤w2.heap.size:=Nat.le_trans hbase hb1.fr.size
 have hr2:Rd w2 A (s.map bv):=by
  by_cases hs0:s= []
  ·rw[hs0];exact Rd.nil _ _
  ·exact hb1.fr.rd hr (fun a ha e=>e.elim (hA hs0 a ha).1 (hA hs0 a ha).2)
 have cg:=hb2.av.cell 0 _ rfl
 have hll:(bs++p).length≤100000000009:=by rw[List.length_append];omega
 clear c6 HP hpl hr hA h6 hB hbase
 go_wp2_with (at_builtin;refine nI hb2.own hbase2 n c hr2 hs.out OM rfl (.tmp 8) (.tmp 9) rfl rfl rfl ?_;intro v3 w3 o3 gr3 ob3;obtain⟨q3,A3,c3,rfl⟩:=o3.formE;have q1:=hb2.av.same (gr3.block _ hb2.av.lt (fun e=>hb2.ne e.symm));have qc:=q1.cell 0 _ rfl;have qf:=frozen_of_row _ _ 0 _ _ q1)
 go_end0
 refine⟨⟨_,rfl⟩,.slice A3 q3 c3,?_⟩
 rw[← List.append_assoc]
 exact hb1.trans (hb2.app o3 gr3 ob3)
end Go.Proofs.YtobjgebojhjhnaaGreatDoor
