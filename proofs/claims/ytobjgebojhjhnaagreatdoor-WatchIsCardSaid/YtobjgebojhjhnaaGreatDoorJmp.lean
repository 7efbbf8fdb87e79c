import Derived.ScopeJumps
import Derived.WalkMore
namespace Go.Proofs.YtobjgebojhjhnaaGreatDoor
def kH (J:Nat→Act→World→Prop) (Q:Exit→Act→World→Prop):Exit→Act→World→Prop
 | .goto l,a,w=>J l a w
 |e,a,w=>Q e a w
theorem zH {P:Program} {a:Act} {w:World} {Q:Exit→Act→World→Prop} {c:Code} (J:Nat→Nat→Act→World→Prop) (rest:Nat→Option Code) (hf:∀ l,findLabel c l=rest l) (hJ:∀ l m a w,J l m a w→(rest l).isSome=true)
  (first:c.wp P (kH (fun l a w=>∃ m,J l m a w) Q) a w)
  (pass:∀ l r m a w,J l m a w→rest l=some r→r.wp P (kH (fun l' a' w'=>∃ m',m'<m∧J l' m' a' w') Q) a w):(Code.scope c).wp P Q a w:=by
 intro b k cs
 have hg:∀ l r,rest l=some r→gotoIn l (.inScope c :: k)=some (.code r :: .inScope c :: k):=fun l r hr=>by simp[gotoIn,hf l,hr]
 have key:∀ m l r a w,J l m a w→rest l=some r→∃ e a' w',Q e a' w'∧Arrives P (lone (b.at a (.code r :: .inScope c :: k)) cs w) b k cs e a' w':=by
  intro m
  induction m using Nat.strongRecOn with
  |_ m ih=>
   intro l r a w hj hr
   obtain⟨e,a₁,w₁,hq,harr⟩:=pass l r m a w hj hr b (.inScope c :: k) cs
   cases e with
   |normal=>exact⟨.normal,a₁,w₁,hq,Steps.trans harr (.one step_inScope)⟩
   |exit id=>exact⟨.exit id,a₁,w₁,hq,fun k' hk=>harr k' (by simp[exitTo,hk])⟩
   |goto l'=>
    obtain⟨m',hlt,hj'⟩:=hq
    obtain⟨r',hr'⟩:=Option.isSome_iff_exists.1 (hJ _ _ _ _ hj')
    obtain⟨e₂,a₂,w₂,hq₂,harr₂⟩:=ih m' hlt l' r' a₁ w₁ hj' hr'
    exact⟨e₂,a₂,w₂,hq₂,.of_steps (harr _ (hg _ _ hr')) harr₂⟩
   |ret=>exact⟨_,a₁,w₁,hq,harr⟩
   |panic ch=>exact⟨_,a₁,w₁,hq,harr⟩
   |outgrown=>exact⟨_,a₁,w₁,hq,harr⟩
 obtain⟨e,a₁,w₁,hq,harr⟩:=first b (.inScope c :: k) cs
 cases e with
 |normal=>exact⟨.normal,a₁,w₁,hq,.head step_scope (Steps.trans harr (.one step_inScope))⟩
 |exit id=>exact⟨.exit id,a₁,w₁,hq,fun k' hk=>.head step_scope (harr k' (by simp[exitTo,hk]))⟩
 |goto l'=>
  obtain⟨m',hj'⟩:=hq
  obtain⟨r',hr'⟩:=Option.isSome_iff_exists.1 (hJ _ _ _ _ hj')
  obtain⟨e₂,a₂,w₂,hq₂,harr₂⟩:=key m' l' r' a₁ w₁ hj' hr'
  exact⟨e₂,a₂,w₂,hq₂,.of_steps (.head step_scope (harr _ (hg _ _ hr'))) harr₂⟩
 |ret=>exact⟨_,a₁,w₁,hq,.of_steps (.one step_scope) harr⟩
 |panic ch=>exact⟨_,a₁,w₁,hq,.of_steps (.one step_scope) harr⟩
 |outgrown=>exact⟨_,a₁,w₁,hq,.of_steps (.one step_scope) harr⟩
theorem sY {P:Program} {Q:Exit→Act→World→Prop} {c:Code} {X Y:Nat→Act→World→Prop} {a:Act} {w:World} (h:∀ l a w,X l a w→Y l a w) (hc:c.wp P (kH X Q) a w):c.wp P (kH Y Q) a w:=by
 refine Code.wp_mono (fun e a' w' hq=>?_) hc
 cases e <;> first|exact h _ _ _ hq|exact hq
theorem BU {P:Program} {a:Act} {w:World} {Q:Exit→Act→World→Prop} {c:Code} (l0 l1:Nat) (J0 J1:Nat→Act→World→Prop) {r0 r1:Code} (h0:findLabel c l0=some (Code.skip.seq r0)) (h1:findLabel c l1=some (Code.skip.seq r1))
  (pass1:∀ m a w,J1 m a w→r1.wp P (kH (fun l a' w'=>∃ m',m'<m∧(l=l0∧J0 m' a' w'∨l=l1∧J1 m' a' w')) Q) a w)
  (pass0:(∀ m a w,J1 m a w→r1.wp P (kH (fun l a' w'=>∃ m',m'<m∧(l=l0∧J0 m' a' w'∨l=l1∧J1 m' a' w')) Q) a w)→ ∀ m a w,J0 m a w→r0.wp P (kH (fun l a' w'=>∃ m',m'<m∧(l=l0∧J0 m' a' w'∨l=l1∧J1 m' a' w')) Q) a w)
  (first:(∀ m a w,J0 m a w→r0.wp P (kH (fun l a' w'=>∃ m',m'<m∧(l=l0∧J0 m' a' w'∨l=l1∧J1 m' a' w')) Q) a w)→c.wp P (kH (fun l a w=>∃ m,(l=l0∧J0 m a w∨l=l1∧J1 m a w)) Q) a w):(Code.scope c).wp P Q a w:=by
 refine zH (fun l m a w=>l=l0∧J0 m a w∨l=l1∧J1 m a w) (fun l=>findLabel c l) (fun _=>rfl) ?_ (first (pass0 pass1)) ?_
 ·rintro l m a w (⟨rfl,_⟩|⟨rfl,_⟩)
  ·rw[h0];rfl
  ·rw[h1];rfl
 ·rintro l r m a w (⟨rfl,h⟩|⟨rfl,h⟩) hr
  ·obtain rfl:r=Code.skip.seq r0:=Option.some.inj (hr.symm.trans h0)
   exact wp_seq (wp_skip (pass0 pass1 m a w h))
  ·obtain rfl:r=Code.skip.seq r1:=Option.some.inj (hr.symm.trans h1)
   exact wp_seq (wp_skip (pass1 m a w h))
def EZ (f:Nat→Value):List (Nat × Value)→Prop
 | []=>True
 |p :: r=>f p.1=p.2∧EZ f r
structure Dt (a:Act) (n:Nat) (L:List (Nat × Value)):Prop where
 defers:a.defers= []
 size:a.tmps.size=n
 slots:EZ (fun i=>a.tmps.getD i undef) L
theorem Dt.frame {a:Act} {n:Nat} {L:List (Nat × Value)} (h:Dt a n L):∃ f:Nat→Value,EZ f L∧a=⟨⟨(List.range n).map f⟩,[]⟩:=by
 obtain⟨hd,hs,hl⟩:=h
 obtain⟨t,d⟩:=a
 dsimp only at hd hs hl
 subst hd
 have e:t=⟨(List.range n).map fun i=>t.getD i undef⟩:=by
  obtain⟨l⟩:=t
  congr 1
  apply List.ext_getElem
  ·simpa using hs
  ·intro i h1 h2
   simp[Array.getD_eq_getD_getElem?,h1]
 exact⟨fun i=>t.getD i undef,hl,by rw[← e]⟩
end Go.Proofs.YtobjgebojhjhnaaGreatDoor
