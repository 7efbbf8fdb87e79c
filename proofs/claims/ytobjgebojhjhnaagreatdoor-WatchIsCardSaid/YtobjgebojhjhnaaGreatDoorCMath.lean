
namespace Go.Proofs.YtobjgebojhjhnaaGreatDoor.Cm
def le:List UInt8→Nat
 | []=>0
 |b :: r=>b.toNat+256*le r
def lo:Nat→Nat→List UInt8
 |0,_=>[]
 |k+1,n=>UInt8.ofNat n :: lo k (n / 256)
def size (n:Nat):Nat:=if n<253 then 1 else if n<65536 then 3 else if n<4294967296 then 5 else 9
def mark (n:Nat):UInt8:=if n<65536 then 253 else if n<4294967296 then 254 else 255
def put (n:Nat):List UInt8:=if n<253 then [UInt8.ofNat n] else mark n :: lo (size n - 1) n
def behind (b:UInt8):Nat:=if b=253 then 2 else if b=254 then 4 else if b=255 then 8 else 0
def get (l:List UInt8):Nat × Nat × Nat:=
 match l with
 | []=>(0,0,1)
 |b :: r=>
  if behind b=0 then (b.toNat,1,0)
  else if r.length<behind b then (0,0,1)
  else if size (le (r.take (behind b)))≠1+behind b then (0,0,2)
  else (le (r.take (behind b)),1+behind b,0)
def bounded (l:List UInt8) (most:Nat):Nat × Nat × Nat:=
 if (get l).2.2≠0 then (0,0,(get l).2.2)
 else if most<(get l).1∨2147483647<(get l).1 then (0,0,3)
 else get l
def bytes (l:List UInt8) (most:Int):List UInt8 × Nat × Nat:=
 if (bounded l most.toNat).2.2≠0 then ([],0,(bounded l most.toNat).2.2)
 else if most<0 then ([],0,3)
 else if l.length - (bounded l most.toNat).2.1<(bounded l most.toNat).1 then ([],0,1)
 else ((l.drop (bounded l most.toNat).2.1).take (bounded l most.toNat).1,(bounded l most.toNat).2.1+(bounded l most.toNat).1,0)
theorem u8_lt (b:UInt8):b.toNat<256:=b.toNat_lt
theorem lo_length (k n:Nat):(lo k n).length=k:=by
 induction k generalizing n with
 |zero=>rfl
 |succ k ih=>simp[lo,ih]
theorem lo_snoc (k n:Nat):lo (k+1) n=lo k n++ [UInt8.ofNat (n / 256 ^ k)]:=by
 induction k generalizing n with
 |zero=>simp[lo]
 |succ k ih=>
  rw[lo,ih (n / 256)]
  simp only[lo,List.cons_append,Nat.pow_succ,Nat.div_div_eq_div_mul,Nat.mul_comm]
theorem size_cases (n:Nat):(n<253∧size n=1)∨(253≤n∧n<65536∧size n=3)∨(65536≤n∧n<4294967296∧size n=5)∨(4294967296≤n∧size n=9):=by
 unfold size
 by_cases h1:n<253
 ·exact .inl ⟨h1,if_pos h1⟩
 ·by_cases h2:n<65536
  ·exact .inr (.inl ⟨by omega,h2,by rw[if_neg h1,if_pos h2]⟩)
  ·by_cases h3:n<4294967296
   ·exact .inr (.inr (.inl ⟨by omega,h3,by rw[if_neg h1,if_neg h2,if_pos h3]⟩))
   ·exact .inr (.inr (.inr ⟨by omega,by rw[if_neg h1,if_neg h2,if_neg h3]⟩))
theorem size_le (n:Nat):1≤size n∧size n≤9:=by rcases size_cases n with h|h|h|h <;> omega
theorem put_length (n:Nat):(put n).length=size n:=by
 unfold put
 rcases size_cases n with h|h|h|h
 ·rw[if_pos h.1];simp[h.2]
 ·rw[if_neg (by omega)];simp only[List.length_cons,lo_length];omega
 ·rw[if_neg (by omega)];simp only[List.length_cons,lo_length];omega
 ·rw[if_neg (by omega)];simp only[List.length_cons,lo_length];omega
end Go.Proofs.YtobjgebojhjhnaaGreatDoor.Cm
