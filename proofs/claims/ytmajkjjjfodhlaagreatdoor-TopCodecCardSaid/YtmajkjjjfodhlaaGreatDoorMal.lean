/- Part Mal. No condition of its own. -/
import Derived.Test.YtmajkjjjfodhlaaGreatDoorMak
namespace Go.Proofs.YtmajkjjjfodhlaaGreatDoor
open Go.RowKit Tryz Go.Shelf
set_option linter.all false
set_option maxRecDepth 100000
set_option maxHeartbeats 8000000
theorem SX:type_of%@List.take_succ_cons:=@List.take_succ_cons
theorem T4:type_of%@List.drop_succ_cons:=@List.drop_succ_cons
theorem VD:type_of%@List.pairwise_map:=@List.pairwise_map
abbrev Us:=Int×Int×Int×Bool
def GK(u:Us):Bool:=decide (1<=u.2.1/\u.2.1<=8/\0<=u.1/\u.1+u.2.1<=16/\0<=u.2.2.1/\u.2.2.1<=1000000/\(0<u.2.2.1\/u.2.2.2=true))
theorem CE{u:Us}:GK u=true↔1<=u.2.1/\u.2.1<=8/\0<=u.1/\u.1+u.2.1<=16/\0<=u.2.2.1/\u.2.2.1<=1000000/\(0<u.2.2.1\/u.2.2.2=true):=decide_eq_true_iff
def EB:Int->List Us->Bool
 |_,[]=>true
 |e,u::l=>GK u&&decide (e<=u.1)&&EB (u.1+u.2.1) l
def DF:Int->List Us->Int
 |e,[]=>e
 |_,u::l=>DF (u.1+u.2.1) l
def AE(l:List Us):Bool:=EB 0 l
theorem Od{e:Int}{u:Us}{l:List Us}:EB e (u::l)=true↔GK u=true/\e<=u.1/\EB (u.1+u.2.1) l=true:=by
 rw[EB,Hz,Hz,E0,and_assoc]
theorem Vq(a b:List Us):∀e,EB e (a++b)=(EB e a&&EB (DF e a) b):=by
 induction a with
 |nil=>intro e;rfl
 |cons u a c=>intro e;rw[D3,EB,EB,c,DF];simp only[Bool.and_assoc]
theorem fJ(a b:List Us):∀e,DF e (a++b)=DF (DF e a) b:=by
 induction a with
 |nil=>intro e;rfl
 |cons u a c=>intro e;rw[D3,DF,c];rfl
theorem Vr{l:List Us}:∀{e:Int},0<=e->e<=16->EB e l=true->e<=DF e l/\DF e l<=16:=by
 induction l with
 |nil=>intro e h0 h1 _;exact⟨E4 _,h1⟩
 |cons u l a=>
  intro e h0 h1 h;obtain⟨h2,h3,h4⟩:=Od.1 h;have h5:=CE.1 h2;have:=a (by omega) (by omega) h4;rw[DF];omega
theorem Vs{e:Int}{l:List Us}{u:Us}:EB e (l++[u])=true↔EB e l=true/\GK u=true/\DF e l<=u.1:=by
 rw[Vq,Hz,Od];simp[EB]
theorem fK{l:List Us}{k:Nat}(h:AE l=true):AE (l.take k)=true:=by
 have:AE (l.take k++l.drop k)=true:=by rw[IR];exact h
 unfold AE at this⊢;rw[Vq,Hz] at this;exact this.1
def Fl(a b:Us):Prop:=a.1+a.2.1<=b.1
theorem fL{l:List Us}:∀{e:Int},EB e l=true↔(∀u∈l,GK u=true/\e<=u.1)/\l.Pairwise Fl:=by
 induction l with
 |nil=>intro e;simp[EB]
 |cons u l b=>
  intro e;rw[Od,b,I4];constructor
  ·rintro⟨h1,h2,h3,h4⟩;have h5:=CE.1 h1;refine⟨λx a=>?_,λx a=>(h3 x a).2,h4⟩;rcases Dn.1 a with rfl|a
   ·exact⟨h1,h2⟩
   ·have:=h3 x a;exact⟨this.1,by omega⟩
  ·rintro⟨h1,h2,h3⟩;have:=h1 u (Hh ..);exact⟨this.1,this.2,λx a=>⟨(h1 x (G2 _ a)).1,h2 x a⟩,h3⟩
theorem EX{l:List Us}:AE l=true↔(∀u∈l,GK u=true)/\l.Pairwise Fl:=by
 unfold AE;rw[fL];constructor
 ·rintro⟨h1,h2⟩;exact⟨λu a=>(h1 u a).1,h2⟩
 ·rintro⟨h1,h2⟩;exact⟨λu a=>⟨h1 u a,(CE.1 (h1 u a)).2.2.1⟩,h2⟩
theorem KU{u:Us}{l:List Us}:AE (u::l)=true↔GK u=true/\(∀x∈l,Fl u x)/\AE l=true:=by
 rw[EX,EX,I4];constructor
 ·rintro⟨h1,h2,h3⟩;exact⟨h1 u (Hh ..),h2,λx a=>h1 x (G2 _ a),h3⟩
 ·rintro⟨h1,h2,h3,h4⟩;refine⟨λx a=>?_,h2,h4⟩;rcases Dn.1 a with rfl|a
  ·exact h1
  ·exact h3 x a
theorem GL{l:List Us}(h:AE l=true):l.length<=16:=by
 have:∀(l:List Us) (e:Int),0<=e->EB e l=true->(l.length:Int)+e<=DF e l:=by
  intro l;induction l with
  |nil=>intro e _ _;simp[DF]
  |cons u l a=>
   intro e h0 h;obtain⟨h2,h3,h4⟩:=Od.1 h;have h5:=CE.1 h2;have:=a _ (by omega) h4;rw[DF,BV];omega
 have h1:=this l 0 (by omega) h;have h2:=(Vr (by omega) (by omega) h).2;omega
def QO(u:Us)(s:Nat):Bool:=decide (u.1<=s/\(s:Int)<u.1+u.2.1)
def Mj(l:List Us)(s:Nat):Bool:=l.any λu=>QO u s
def CP(l:List Us):List Bool:=(List.range 16).map (Mj l)
def Iu(l:List Us):List Bool:=if AE l=true then CP l else[]
theorem Iv(l:List Us):(CP l).length=16:=by simp[CP]
theorem fM(l:List Us){s:Nat}(h:s<16):(CP l).getD s true=Mj l s:=by
 simp[CP,B9,h]
def Eg:List Us->Int->Int
 |[],_=>0
 |u::l,a=>if u.1=a then u.2.2.1 else Eg l a
def CQ:List Us->Int->Option Nat
 |[],_=>none
 |u::l,a=>if u.1=a then some 0 else(CQ l a).map (·+1)
theorem fN{l:List Us}{a:Int}:∀{i:Nat},CQ l a=some i↔∃h:i<l.length,l[i].1=a/\∀j (b:j<l.length),j<i->l[j].1≠a:=by
 induction l with
 |nil=>intro i;simp[CQ]
 |cons u l f=>
  intro i;rw[CQ];by_cases h:u.1=a
  ·rw[A4 h];constructor
   ·intro e;injection e with e;subst e;exact⟨by simp,h,λj _ b=>by omega⟩
   ·rintro⟨h1,h2,h3⟩;cases i with
    |zero=>rfl
    |succ i=>exact absurd h (h3 0 (by simp) (by omega))
  ·rw[A3 h];cases i with
   |zero=>
    constructor
    ·intro e;cases hf:CQ l a<;>simp[hf] at e
    ·rintro⟨h1,h2,h3⟩;exact absurd h2 h
   |succ i=>
    have:=f (i:=i);constructor
    ·intro e;obtain⟨h1,h2,h3⟩:=this.1 (by cases hf:CQ l a with|none=>simp[hf] at e|some k=>simp[hf] at e;subst e;rfl);refine⟨by simpa using h1,by simpa using h2,λj b c=>?_⟩;cases j with
     |zero=>exact h
     |succ j=>simpa using h3 j (by simpa using b) (by omega)
    ·rintro⟨h1,h2,h3⟩;rw[this.2 ⟨by simpa using h1,by simpa using h2,λj b c d=>h3 (j+1) (by simpa using b) (by omega) (by simpa using d)⟩];rfl
theorem fO{l:List Us}{a:Int}:CQ l a=none↔∀u∈l,u.1≠a:=by
 induction l with
 |nil=>simp[CQ]
 |cons u l b=>
  rw[CQ];by_cases h:u.1=a
  ·rw[A4 h];simp[h]
  ·rw[A3 h];simp[h,b]
theorem QP{l:List Us}{a:Int}{i:Nat}(h:CQ l a=some i):∃c:i<l.length,Eg l a=l[i].2.2.1:=by
 induction l generalizing i with
 |nil=>cases h
 |cons u l b=>
  rw[CQ] at h;by_cases e:u.1=a
  ·rw[A4 e] at h;injection h with h;subst h;exact⟨by simp,by rw[Eg,A4 e];rfl⟩
  ·rw[A3 e] at h;cases hf:CQ l a with
   |none=>simp[hf] at h
   |some k=>
    simp[hf] at h;subst h;obtain⟨h1,h2⟩:=b hf;exact⟨by simpa using h1,by rw[Eg,A3 e,h2];rfl⟩
theorem QQ{l:List Us}{a:Int}(h:CQ l a=none):Eg l a=0:=by
 induction l with
 |nil=>rfl
 |cons u l b=>
  rw[CQ] at h;by_cases e:u.1=a
  ·rw[A4 e] at h;cases h
  ·rw[A3 e] at h;rw[Eg,A3 e];exact b (by cases hf:CQ l a with|none=>rfl|some k=>simp[hf] at h)
theorem QR{l:List Us}(h:AE l=true){u:Us}(a:u∈l):Eg l u.1=u.2.2.1:=by
 induction l with
 |nil=>cases a
 |cons x l b=>
  obtain⟨h1,h2,h3⟩:=KU.1 h;rw[Eg];rcases Dn.1 a with rfl|a
  ·rw[A4 rfl]
  ·have ha:=h2 u a;unfold Fl at ha;have:=CE.1 h1;rw[A3 (by omega)];exact b h3 a
theorem QS{l:List Us}(h:AE l=true)(a:Int):0<=Eg l a/\Eg l a<=1000000:=by
 cases hf:CQ l a with
 |none=>rw[QQ hf];omega
 |some i=>
  obtain⟨b,e⟩:=QP hf;have:=CE.1 ((EX.1 h).1 _ (BA b));rw[e];omega
def J6(u:Us):Us:=(u.1,u.2.1,u.2.2.1,true)
def Br(l:List Us):List Us:=(l.filter λu=>decide (0<u.2.2.1)).map J6
def Fm(l:List Us):List Us:=if AE l=true then Br l else[]
def EC(a b:Int)(u:Us):Us:=if u.1=a then(u.1,u.2.1,u.2.2.1+b,u.2.2.2) else u
def FM(u:Us):Bool:=decide (0<u.2.2.1)||u.2.2.2
def GM(l:List Us)(a b:Int):List Us:=(l.map (EC a b)).filter FM
def EY(l:List Us)(a b:Int):Bool:=AE l&&decide (Eg l a≠0)&&decide (Eg l a+b<=1000000)
def EZ(l:List Us)(a b:Int):List Us:=if EY l a b=true then GM l a b else[]
def EQ:List Us->Us->List Us
 |[],u=>[u]
 |x::l,u=>if x.1<u.1 then x::EQ l u else u::x::l
def Fo(l:List Us)(n:Int):Int:=if AE l=true/\1<=n/\n<=8 then EA (CP l) n else-1
def Cc(l:List Us)(n:Int):Bool:=decide (0<=Fo l n)
def BN(l:List Us)(n:Int):List Us:=if Cc l n=true then EQ l (Fo l n,n,1,false) else[]
def DG(l:List Us)(n:Int):Int:=if Cc l n=true then Fo l n else 0
theorem Oe{l:List Us}{n:Int}(h:Cc l n=true):AE l=true/\1<=n/\n<=8/\∃a:Nat,Fo l n=a/\EA (CP l) n=a/\fits (CP l) a n.toNat=true:=by
 unfold Cc Fo at h;rw[E0] at h;by_cases hc:AE l=true/\1<=n/\n<=8
 ·rw[A4 hc] at h;refine⟨hc.1,hc.2.1,hc.2.2,?_⟩;rcases fF (CP l) hc.2.1 with⟨e,_⟩|⟨a,e,h1,_⟩
  ·rw[e] at h;omega
  ·exact⟨a,by rw[Fo,A4 hc,e],e,h1⟩
 ·rw[A3 hc] at h;omega
theorem QT{l:List Us}(h:AE l=true){a n:Nat}(d:1<=n)(hf:fits (CP l) a n=true):∀u∈l,u.1+u.2.1<=a\/(a:Int)+n<=u.1:=by
 intro u b;obtain⟨h1,h2⟩:=GJ.1 hf;rw[Iv] at h1;have h3:=CE.1 ((EX.1 h).1 u b);have key:∀s:Nat,a<=s->s<a+n->¬(u.1<=(s:Int)/\(s:Int)<u.1+u.2.1):=λs e f hc=>by
  have:=h2 (s-a) (by omega);rw[show a+(s-a)=s by omega,fM l (by omega)] at this;unfold Mj at this;rw[List.any_eq_false] at this;exact this u b (by unfold QO;simpa using hc)
 by_cases c:u.1<a
 ·left;have:=key a (A1 _) (by omega);omega
 ·right;have:=key u.1.toNat (by omega);omega
theorem Vt{l:List Us}{a n:Nat}(hf:fits (CP l) a n=true):a+n<=16:=by
 have:=(GJ.1 hf).1
 rwa [Iv] at this
theorem Of{l:List Us}{u x:Us}:x∈EQ l u↔x=u\/x∈l:=by
 induction l with
 |nil=>simp[EQ]
 |cons y l a=>
  rw[EQ];split
  ·rw[Dn,a,Dn];constructor
   ·rintro(h|h|h)<;>simp[h]
   ·rintro(h|h|h)<;>simp[h]
  ·simp
theorem fP{l:List Us}(h:AE l=true){u:Us}(b:GK u=true)(ha:∀x∈l,x.1+x.2.1<=u.1\/u.1+u.2.1<=x.1):AE (EQ l u)=true:=by
 induction l with
 |nil=>rw[EQ,KU];exact⟨b,λx a=>(by cases a),rfl⟩
 |cons y l d=>
  obtain⟨h1,h2,h3⟩:=KU.1 h;have hy:=ha y (Hh ..);have h4:=CE.1 h1;have h5:=CE.1 b;rw[EQ];by_cases c:y.1<u.1
  ·rw[A4 c,KU];refine⟨h1,λx a=>?_,d h3 (λx a=>ha x (G2 _ a))⟩;rcases Of.1 a with rfl|a
   ·unfold Fl;omega
   ·exact h2 x a
  ·rw[A3 c,KU];refine⟨b,λx a=>?_,h⟩;rcases Dn.1 a with rfl|a
   ·unfold Fl;omega
   ·have:=h2 x a;unfold Fl at this⊢;omega
theorem fQ{l:List Us}{n:Int}(h:Cc l n=true):AE (BN l n)=true:=by
 obtain⟨h1,h2,h3,a,h4,h5,h6⟩:=Oe h;rw[BN,A4 h,h4];have hr:=Vt h6;refine fP h1 (CE.2 ⟨h2,h3,by simp,?_,by simp,by simp,Or.inl (by simp)⟩) (λx b=>?_)
 ·simp only;omega
 ·have:=QT h1 (by omega) h6 x b;simp only;omega
theorem fR{l:List Us}(h:AE l=true){a b:Int}(hb:∀u∈l,u.1=a->0<=u.2.2.1+b/\u.2.2.1+b<=1000000):AE (GM l a b)=true:=by
 rw[EX] at h⊢;obtain⟨h1,h2⟩:=h;constructor
 ·intro u d;obtain⟨d,hk⟩:=HK.1 d;obtain⟨x,f,rfl⟩:=E1.1 d;have h3:=CE.1 (h1 x f);unfold FM at hk;rw[CE];unfold EC at hk⊢;by_cases e:x.1=a
  ·rw[A4 e] at hk⊢;have:=hb x f e;simp only[J4,E0] at hk;simp only;exact⟨h3.1,h3.2.1,h3.2.2.1,h3.2.2.2.1,this.1,this.2,hk⟩
  ·rw[A3 e];exact h3
 ·refine List.Pairwise.filter _ ?_;rw[VD];refine h2.imp λ{x y} g=>?_;have e:∀c:Us,(EC a b c).1=c.1/\(EC a b c).2.1=c.2.1:=λc=>by unfold EC;split<;>exact⟨rfl,rfl⟩
  unfold Fl at g⊢;rw[(e x).1,(e x).2,(e y).1];exact g
theorem fS{l:List Us}{a b:Int}(h:EY l a b=true):AE l=true/\1<=Eg l a/\Eg l a+b<=1000000:=by
 unfold EY at h;rw[Hz,Hz,E0,E0] at h;have:=QS h.1.1 a;exact⟨h.1.1,by have:=h.1.2;omega,h.2⟩
theorem Vu{l:List Us}(h:AE l=true):AE (Br l)=true:=by
 rw[EX] at h⊢;obtain⟨h1,h2⟩:=h;constructor
 ·intro u a;obtain⟨x,b,rfl⟩:=E1.1 a;have:=CE.1 (h1 x (HK.1 b).1);rw[CE];exact⟨this.1,this.2.1,this.2.2.1,this.2.2.2.1,this.2.2.2.2.1,this.2.2.2.2.2.1,Or.inr rfl⟩
 ·rw[Br,VD];exact(List.Pairwise.filter _ h2).imp λ{x y} c=>c
theorem fT{l:List Us}(h:∀u∈l,GK u=true):l.filter FM=l:=by
 rw[List.filter_eq_self];intro u a;have:=(CE.1 (h u a)).2.2.2.2.2.2;unfold FM;rw[J4,E0];exact this
theorem fU{l:List Us}{a b:Int}(h:∀u∈l,u.1≠a)(h1:∀u∈l,GK u=true):GM l a b=l:=by
 unfold GM;rw[show l.map (EC a b)=l from by
  conv=>rhs;rw[<-List.map_id l]
  exact HV λu c=>by unfold EC;rw[A3 (h u c)];rfl]
 exact fT h1
theorem fV{l:List Us}{n:Int}(h:Cc l n=true):∀x∈l,x.1≠Fo l n:=by
 obtain⟨h1,h2,h3,a,h4,h5,h6⟩:=Oe h;intro x b;have:=QT h1 (by omega) h6 x b;have h7:=CE.1 ((EX.1 h1).1 x b);rw[h4];omega
section
attribute [local go_sem] Oper.semAt_some
abbrev Og(x:Nat×Nat):Array Value:=#[.int .i64 (x.1:Int), .int .i64 (x.2:Int)]
def J7(n₀ a:Nat)(b c:World):Prop:=Below n₀ b c/\∀v,b.cell? ⟨a,0,none⟩=some v->c.cell? ⟨a,0,none⟩=some v
theorem fW{n₀ a:Nat}{A B C:World}(h:J7 n₀ a A B)(k:J7 n₀ a B C):J7 n₀ a A C:=⟨h.1.trans k.1,λv b=>k.2 v (h.2 v b)⟩
theorem fX{n₀ b:Nat}{w:World}(c:n₀<=w.heap.size)(a:World)(l:Nat)(o o':Obj)(hl:w<=l)(h:a.heap[l]?=some o)(hc:o.isCells=false)(f:o.isWalk=false):J7 n₀ b a (a.putObj l o'):=
 ⟨belowK_b c a l o o' hl h hc f,λ_ d=>Hn d (Hv a l o') (λg e=>by cases e;exact⟨_,h,hc⟩)⟩
theorem fY(n₀ b:Nat)(a:World):J7 n₀ b a a:=⟨A2 _ _,λ_ h=>h⟩
theorem fZ(l:List Bool):∀(k p:Nat),l.length-p<=k->(Fk l p).length<=l.length-p:=by
 intro k;induction k with
 |zero=>intro p hk;rw[J5 l (by omega)];simp
 |succ k a=>
  intro p hk;by_cases hp:p<l.length
  ·rw[Mi l hp,A9];have:=a (p+Ca l p+1) (by omega);split<;>simp<;>omega
  ·rw[J5 l (by omega)];simp
theorem gc(F:Fence)(n:Nat)(M:F.fn 344)(P:F.round=none)(T:1<=n)(l r n₀ b off cap:Nat)(bs:List Bool)(V:bs.length<=140737488355328)(hb:b<n₀)(g B:List (Nat×Nat)->World->Prop)
 (D:∀pre x a,g pre a->pre.length<bs.length->YieldAt F (n-1) prog l (Og x) a λe d=>
  (e= .returned (.bool true)/\g (pre++[x]) d/\J7 n₀ r a d)\/(e= .returned (.bool false)/\B (pre++[x]) d))
 (a:World)(L:a.cell? ⟨r,0,none⟩=some (.slice (some ⟨b,off,none⟩) bs.length cap))(hc:∀i (R:i<bs.length),a.cell? ⟨b,off+i,none⟩=some (.bool bs[i]))(h0:g [] a):
 CallsIn F n prog 344 #[.func (.yield l) #[] #[], .pointer (some ⟨r,0,none⟩)] a λe d=>(∃v,e= .returned v)/\
  ((∃ys,ys=Hk bs/\g ys d)\/(∃pre,pre<+:Hk bs/\B pre d)):=by
 refine Ht func344 rfl M ?_ P;simp only[ntmps344,D2,BV,C4,Nat.reduceAdd,Nat.reduceSub,F1,F2,GV,F3,B7,D3];gi_wp2
 gi_loopw [3] (λi wr=>∃(p:Nat) (pre:List (Nat×Nat)),i= .int .i64 p/\p<=bs.length+1/\pre++Fk bs p=Hk bs/\g pre wr/\Below n₀ a wr/\wr.cell? ⟨r,0,none⟩=some (.slice (some ⟨b,off,none⟩) bs.length cap))
  (λi _=>bs.length+1-(intOf i).toNat)
 case atStart=>exact⟨0,[],rfl,by omega,rfl,h0,A2 _ _,L⟩
 case round=>
  obtain⟨p,pre,rfl,hp,E,s,o,t⟩:=hrel;have c:=A0 E;clear E;by_cases O:p<bs.length
  ·have W:=Vi bs p (by omega);have Hfree:=A0 (GJ.1 (QN bs p (by omega))).2;obtain⟨G,Hstep⟩:=Hx2 (Vj bs p) (Mi bs O);have U:pre.length<bs.length\/Ca bs p=0:=by
    have h1:=fZ bs bs.length 0 (by omega);have h2:(pre++Fk bs p).length=(Hk bs).length:=by rw[c.out]
    rw[A9,Hstep.out,A9] at h2;have h3:(Hk bs).length<=bs.length:=by show(Fk bs 0).length<=_;omega
    by_cases hs:0<Ca bs p
    ·rw[A4 hs] at h2;simp at h2;left;omega
    ·right;omega
   generalize Q:Ca bs p=S at*;gi_wp2
   gi_loop [4] (λm=>∃k:Nat,k<=S/\m= .int .i64 k) (λm=>S-(intOf m).toNat)
   case atStart=>exact⟨0,A7 _,rfl⟩
   case round=>
    obtain⟨k,hk,rfl⟩:=hrel;by_cases N:k<S
    ·have q:bs[p+k]'(by omega)=false:=by
      have:=Hfree k N;rw[B9,Bl (by omega)] at this;simpa using this
     have I:wr.cell? ⟨b,off+(p+k),none⟩=some (.bool false):=by
      rw[o.cell (p:=⟨b,off+(p+k),none⟩) hb,hc (p+k) (by omega),q]
     have K:(0:Int)<=(p:Int)+(k:Int):=by omega
     have g1:(p:Int)+(k:Int)<(bs.length:Int):=by omega
     clear q;gi_wp2;exact⟨⟨k+1,by omega,by go_num⟩,by simp[intOf];omega⟩
    ·obtain rfl:k=S:=by omega
     by_cases A:p+k<bs.length
     ·have q:bs[p+k]=true:=by
       have:=G A;rw[B9,Bl A] at this;simpa using this
      have I:wr.cell? ⟨b,off+(p+k),none⟩=some (.bool true):=by
       rw[o.cell (p:=⟨b,off+(p+k),none⟩) hb,hc (p+k) A,q]
      have K:(0:Int)<=(p:Int)+(k:Int):=by omega
      have g1:(p:Int)+(k:Int)<(bs.length:Int):=by omega
      clear q;by_cases f:0<k
      ·have z:pre.length<bs.length:=by omega
       obtain⟨J,tmps,assign,body,hy,y⟩:=D pre (p,k) wr s z;dsimp only[Og] at hy;have C:(0:Int)<(k:Int):=by omega
       gi_wp2;refine y.mono ?_;rintro e H (⟨rfl,u,j⟩|⟨rfl,w⟩)
       ·gi_wp2;exact⟨⟨p+k+1,pre++[(p,k)],by rw[show(((p+k+1:Nat)):Int)=(p:Int)+((k:Int)+1) by omega],by omega,by
         have h:=Hstep.out;rw[A4 f] at h;rw[C1,<-h];exact c,u,o.trans j.1,j.2 _ t⟩,by simp[intOf];omega⟩
       ·gi_wp2;refine A5 (results_none rfl _ _ _) rfl ?_;refine⟨⟨_,rfl⟩, .inr ⟨pre++[(p,k)],⟨Fk bs (p+k+1),?_⟩,w⟩⟩;have h:=Hstep.out;rw[A4 f] at h;rw[C1,<-h];exact c
      ·have C:¬(0:Int)<(k:Int):=by omega
       gi_wp2;refine⟨λ_ h=>(by cases h),?_⟩;gi_wp2;exact⟨⟨p+k+1,pre,by rw[show(((p+k+1:Nat)):Int)=(p:Int)+((k:Int)+1) by omega],by omega,by
        have h:=Hstep.out;rw[A3 f,B7] at h;rw[<-h];exact c,s,o,t⟩,by simp[intOf];omega⟩
     ·have g1:(bs.length:Int)<=(p:Int)+(k:Int):=by omega
      have f:0<k:=by omega
      have z:pre.length<bs.length:=by omega
      obtain⟨J,tmps,assign,body,hy,y⟩:=D pre (p,k) wr s z;dsimp only[Og] at hy;have C:(0:Int)<(k:Int):=by omega
      gi_wp2;refine y.mono ?_;rintro e H (⟨rfl,u,j⟩|⟨rfl,w⟩)
      ·gi_wp2;exact⟨⟨p+k+1,pre++[(p,k)],by rw[show(((p+k+1:Nat)):Int)=(p:Int)+((k:Int)+1) by omega],by omega,by
        have h:=Hstep.out;rw[A4 f] at h;rw[C1,<-h];exact c,u,o.trans j.1,j.2 _ t⟩,by simp[intOf];omega⟩
      ·gi_wp2;refine A5 (results_none rfl _ _ _) rfl ?_;refine⟨⟨_,rfl⟩, .inr ⟨pre++[(p,k)],⟨Fk bs (p+k+1),?_⟩,w⟩⟩;have h:=Hstep.out;rw[A4 f] at h;rw[C1,<-h];exact c
  ·gi_wp2
   go_end0
   exact⟨⟨_,rfl⟩, .inl ⟨pre,by
    have h:=c.out;rw[J5 bs (by omega),E5] at h;exact h,s⟩⟩
theorem gh(F:Fence)(n:Nat)(g:F.fn 344)(j:F.round=none)(l d:Nat)(a:Option Addr)(cap:Nat)(c:List (Nat×Nat)->World->Prop)(b:World)(k:b.cell? ⟨d,0,none⟩=some (.slice a 0 cap))(h0:c [] b):
 CallsIn F n prog 344 #[.func (.yield l) #[] #[], .pointer (some ⟨d,0,none⟩)] b λe f=>(∃v,e= .returned v)/\c [] f:=by
 refine Ht func344 rfl g ?_ j;simp only[ntmps344,D2,BV,C4,Nat.reduceAdd,Nat.reduceSub,F1,F2,GV,F3,B7,D3];gi_wp2
 gi_loopw [3] (λi wr=>i= .int .i64 0/\c [] wr/\wr=b) (λ_ _=>0)
 case atStart=>exact⟨rfl,h0,rfl⟩
 case round=>
  obtain⟨rfl,h,rfl⟩:=hrel;gi_wp2
  go_end0
  exact⟨⟨_,rfl⟩,h⟩
theorem gi(F:Fence)(n:Nat)(b:F.fn 294)(c:F.round=none)(a:Option Addr)(len cap:Nat)(w:World):
 CallsIn F n prog 294 #[.slice a len cap] w λe w'=>e= .returned (.func (.func 344) #[] #[.pointer (some ⟨w,0,none⟩)])/\w'=w.alloc (.cells #[.slice a len cap] 25):=by
 refine Ht func294 rfl b ?_ c;simp only[ntmps294,D2,BV,C4,Nat.reduceAdd,Nat.reduceSub,F1,F2,GV,F3,B7,D3];gi_wp2;go_ret;exact⟨rfl,rfl⟩
theorem gj(F:Fence)(n:Nat)(g:F.fn 344)(k:F.round=none)(y:1<=n)(c n₀:Nat)(v:Value)(bs:List Bool)(z:bs.length<=140737488355328)(w:World)(o:c<w.heap.size)
 (hc:w.cell? ⟨c,0,none⟩=some v)(q:Av w v 1 (λx=>[.bool x]) bs)(hb:∀b off len cap,v= .slice (some ⟨b,off,none⟩) len cap->b<n₀\/len=0):
 SeqStopsK F n prog 344 #[.pointer (some ⟨c,0,none⟩)] Og (J7 n₀ c) (λys=>ys=Hk bs) (λpre=>pre<+:Hk bs) bs.length w:=λl d m f i _ _ r h0=>by
 have j:=(i.cell (p:=⟨c,0,none⟩) o).trans hc;rcases Da (Aj q i) with⟨rfl,a,cap,rfl,_⟩|⟨hp,b,off,cap,rfl,_,_,s⟩
 ·exact(gh F n g k l c a cap d f j h0).mono λe A ⟨t,u⟩=>⟨t, .inl ⟨[],rfl,u⟩⟩
 ·exact gc F n g k y l c n₀ b off cap bs z (by rcases hb _ _ _ _ rfl with h|h<;>omega) d m r f j s h0
end
section
attribute [local go_sem] Oper.semAt_some
theorem gn{d:Type}{w:World}{a:Option Addr}{len cap k:Nat}{E:d->List Value}{xs:List d}(h:Av w (.slice a len cap) k E xs):∀b off l c,Value.slice a len cap= .slice (some ⟨b,off,none⟩) l c->b<w.heap.size\/l=0:=by
 intro b off l c e;obtain⟨g,j,f,_,_,hc⟩:=h;injection f with h1 h2 h3;injection e with q1 q2 q3;rcases hc with rfl|⟨i,m,ha,hb,_⟩
 ·right;rw[<-q2,h2];rfl
 ·left;rw[<-h1,q1] at ha;simp only[Hs,Addr.mk.injEq] at ha;omega
theorem gp(F:Fence)(n:Nat)(M:F.fn 241)(N:F.fn 294)(C:F.fn 344)(i:F.round=none)(U:3<=n)(a:Option Addr)(cap:Nat)(bs:List Bool)(m:Int)(w:World)(I:Av w (.slice a bs.length cap) 1 (λx=>[.bool x]) bs)(R:bs.length<=140737488355328):
 CallsIn F n prog 241 #[.slice a bs.length cap, m] w λe w'=>e= .returned (.int .i64 (EA bs m))/\Below w w w':=by
 have h1:1<=n:=by omega
 refine M0 func241 rfl M ?_ i;simp only[ntmps241,D2,BV,C4,Nat.reduceAdd,Nat.reduceSub,F1,F2,GV,F3,B7,D3];by_cases O:m<1
 ·gi_wp2;refine⟨.int .i64 (-1),by simp[results,Tryz.f241,go_sem],by rw[fE O],((A2 _ w).alloc (A1 _) _).alloc (by simp) _⟩
 ·gi_wp2_with (gi_at_call 294;refine(gi F (n-1) N i _ _ _ _).mono ?_;rintro e w' ⟨rfl,rfl⟩)
  have J:=Boxed.new w 3 (.int .i64 m);have j:=Boxed.new (w.alloc (.cells #[m] 3)) 3 (.int .i64 0);have z:=Boxed.new ((w.alloc (.cells #[m] 3)).alloc (.cells #[.int .i64 0] 3)) 25 (.slice a bs.length cap);rw[Bx] at j;rw[Bx,Bx] at z;have E:Below w w (((w.alloc (.cells #[m] 3)).alloc (.cells #[.int .i64 0] 3)).alloc (.cells #[.slice a bs.length cap] 25)):=(((A2 _ w).alloc (A1 _) _).alloc (by simp) _).alloc (by simp;omega) _;refine wpIn_rangeFunc_ownG i h1 (gf:=344) (lb:=#[.pointer (some ⟨w+1+1,0,none⟩)]) rfl C (enters_of func344 (by kernel_rfl) rfl)
   (gj F (n-1) C i (by omega) (w+1+1) w.heap.size _ bs R _ (by simp) z.cell (Aj I E) (gn I)) fW (fX (by simp;omega)) (A2 _ _) (λ_=>rfl)
   (λpre b=>((∀y∈pre,(y.2:Int)<m)/\b.cell? ⟨w,0,none⟩=some (.int .i64 m)/\b.cell? ⟨w+1,0,none⟩=some (.int .i64 0)/\b.frozen? ⟨w+1,0,none⟩=false)/\Below w w b)
   (λc pre b=>(c= .ret/\∃ini last,pre=ini++[last]/\(∀y∈ini,(y.2:Int)<m)/\m<=(last.2:Int)/\b.cell? ⟨w+1,0,none⟩=some (.int .i64 (last.1:Int)))/\Below w w b)
   (G6 (Own.from (λs A B row hs h hr=>⟨hs.1,Hn hs.2.1 h hr,Hn hs.2.2.1 h hr,(frozen_kept hs.2.2.1 h hr).trans hs.2.2.2⟩) _) (IW (A1 _) (by simp;omega)))
   (λc=>G6 (Own.from (λs A B row hs h hr=>by obtain⟨hc,ini,last,k,o,q,L⟩:=hs;exact⟨hc,ini,last,k,o,q,Hn L h hr⟩) _) (IW (A1 _) (by simp;omega)))
   ⟨⟨by simp,((J.alloc _).alloc _).cell,(j.alloc _).cell,(j.alloc _).frozen⟩,E⟩
   (λx=>{tmps:=#[.slice a bs.length cap, m,undef, .pointer (some ⟨w,0,none⟩), .pointer (some ⟨w+1,0,none⟩), .int .i64 (x.1:Int), .int .i64 (x.2:Int), m, .bool false, .slice a bs.length cap, .func (.func 344) #[] #[.pointer (some ⟨w+1+1,0,none⟩)], .int .i64 (x.1:Int), .int .i64 (x.2:Int),undef,undef,undef,undef],defers:=[]}) ?assign ?body ?done ?stop
  case assign=>
   intro l x b K d;gi_wp2;exact d
  case body=>
   rintro l pre x b ⟨⟨hp,G,g,H⟩,f⟩ _;gi_wp2
   ·have v:m<=(x.2:Int):=by assumption
    exact⟨(NB _ _ _).from _,⟨rfl,pre,x,rfl,hp,v,World.cell?_setCell_same' _ _ _ (by rw[g];rfl)⟩,f.setCell (p:=⟨w+1,0,none⟩) (by simp) _⟩
   ·have v:(x.2:Int)<m:=by assumption
    exact⟨M4 _ _,fY _ _ _,⟨λp Q=>(GA.1 Q).elim (hp p) (λe=>by simp at e;subst e;exact v),G,g,H⟩,f⟩
  case done=>
   rintro D ys b r rfl ⟨⟨P,G,g,H⟩,f⟩ d;gi_wp2;have t:=(NB b ⟨w+1,0,none⟩ (.int .i64 (-1))).same D _ d rfl;refine⟨by simp, .inl ⟨_,_,rfl,I0 t,?_⟩⟩;have u:=Hn (World.cell?_setCell_same' b ⟨w+1,0,none⟩ (.int .i64 (-1)) (by rw[g];rfl)) (Hv _ D (.deferred none)) (λT e=>by cases e;exact⟨_,t,rfl⟩);refine⟨.int .i64 (-1),?_,by rw[fG (by omega) P],(f.setCell (p:=⟨w+1,0,none⟩) (by simp) _).trans (belowK_b (w:=w) (A1 _) _ D _ _ (by simp at r;omega) t rfl rfl)⟩;simp[results,Tryz.f241,go_sem,u]
  case stop=>
   rintro D c pre b r ⟨rest,S⟩ ⟨⟨rfl,ini,last,k,o,q,g⟩,f⟩ d;gi_wp2;refine⟨by simp, .inl ⟨_,_,rfl,I0 d,?_⟩⟩;have u:=Hn g (Hv _ D (.deferred none)) (λT e=>by cases e;exact⟨_,d,rfl⟩);refine⟨.int .i64 (last.1:Int),?_,by rw[fH (x:=last) (ini:=ini) (rest:=rest) (by omega) (by rw[<-S,k];simp) o q],f.trans (belowK_b (w:=w) (A1 _) b D _ _ (by simp at r;omega) d rfl rfl)⟩;simp[results,Tryz.f241,go_sem,u]
theorem Vv(v:Value)(bs:List Bool)(m:Int)(w:World)(b:Av w v 1 (λx=>[.bool x]) bs)(c:bs.length<=140737488355328):
 Calls prog 241 #[v, m] w λe w'=>e= .returned (.int .i64 (EA bs m))/\Below w w w':=by
 obtain⟨a,cap,rfl,_⟩:=id b;exact(FR (n:=6)).1 (gp Fence.wide 6 trivial trivial trivial rfl (by omega) a cap bs m w b c)
end
abbrev Bn:Us->List Value:=λu=>[.int .i64 u.1, u.2.1, u.2.2.1, .bool u.2.2.2]
def Al(l:List Us):List Value:=l.flatMap Bn
theorem J8(c:Us)(l:List Us):Al (c::l)= .int .i64 c.1:: .int .i64 c.2.1:: .int .i64 c.2.2.1:: .bool c.2.2.2::Al l:=rfl
theorem Mk(a b:List Us):Al (a++b)=Al a++Al b:=by simp[Al]
theorem Iw(l:List Us):(Al l).length=l.length*4:=by
 induction l with
 |nil=>rfl
 |cons t l a=>rw[J8];simp only[BV,a];omega
theorem Ml(l:List Us):∀i (a:i<l.length),(Al l)[i*4]?=some (.int .i64 l[i].1)/\(Al l)[i*4+1]?=some (.int .i64 l[i].2.1)/\(Al l)[i*4+2]?=some (.int .i64 l[i].2.2.1)/\(Al l)[i*4+3]?=some (.bool l[i].2.2.2):=by
 induction l with
 |nil=>intro i a;simp at a
 |cons t l b=>
  intro i a;rw[J8];rcases i with _|i
  ·exact⟨rfl,rfl,rfl,rfl⟩
  ·have:=b i (by simpa using a);rw[show(i+1)*4=i*4+1+1+1+1 by omega];simpa using this
theorem QU(l:List Us):∀k,Al (l.take k)=(Al l).take (k*4):=by
 induction l with
 |nil=>intro k;simp[Al]
 |cons t l a=>
  intro k;cases k with
  |zero=>simp[Al]
  |succ k=>rw[SX,J8,J8,show(k+1)*4=k*4+1+1+1+1 by omega,SX,SX,SX,SX,a]
theorem QV(l:List Us):∀k,Al (l.drop k)=(Al l).drop (k*4):=by
 induction l with
 |nil=>intro k;simp[Al]
 |cons t l a=>
  intro k;cases k with
  |zero=>simp
  |succ k=>rw[T4,J8,show(k+1)*4=k*4+1+1+1+1 by omega,T4,T4,T4,T4,a]
theorem Vw(l:List Us)(c:Int):∀k (hk:k<l.length),(Al l).set (k*4+2) (.int .i64 c)=Al (l.set k (l[k].1,l[k].2.1,c,l[k].2.2.2)):=by
 induction l with
 |nil=>intro k hk;simp at hk
 |cons t l a=>
  intro k hk;rcases k with _|k
  ·rfl
  ·have:=a k (by simpa using hk);rw[show(k+1)*4+2=(k*4+2)+1+1+1+1 by omega,J8,G3,G3,G3,G3,G3,J8,this];rfl
theorem Oh(l:List Us):∀u∈Al l,u.oneCell'=true:=by
 intro u a;obtain⟨t,b,a⟩:=L1.1 a;simp only[Bn,Dn,L2,or_false] at a;rcases a with rfl|rfl|rfl|rfl<;>rfl
abbrev AT(w:World)(v:Value)(l:List Us):Prop:=Av w v 4 Bn l
theorem J9:(prog.info? 47).map (λi=>(i.zero,i.size,i.bytes))=some (some (.agg #[.int .i64 0, .int .i64 0, .int .i64 0, .bool false]),4,32):=by kernel_rfl
theorem E6{w:World}{a:Option Addr}{n cap:Nat}{l:List Us}(d:AT w (.slice a n cap) l){k:Nat}(hk:k<l.length):
 ∃b off,a=some ⟨b,off,none⟩/\b<w.heap.size/\w.cell? ⟨b,off+k*4,none⟩=some (.int .i64 l[k].1)/\w.cell? ⟨b,off+k*4+1,none⟩=some (.int .i64 l[k].2.1)/\w.cell? ⟨b,off+k*4+2,none⟩=some (.int .i64 l[k].2.2.1)/\w.cell? ⟨b,off+k*4+3,none⟩=some (.bool l[k].2.2.2):=by
 obtain⟨f,g,e,hl,h,hc⟩:=d;injection e with h1 h2 h3;subst h1;rcases hc with rfl|⟨b,off,rfl,hb,c⟩
 ·simp at hk
 ·exact⟨b,off,rfl,hb,by simpa using c k hk 0 (by omega),by simpa[Hl] using c k hk 1 (by omega),by simpa[Hl] using c k hk 2 (by omega),by simpa[Hl] using c k hk 3 (by omega)⟩
theorem ED{w:World}{base e n:Nat}{v:Value}{l:List Us}(h:w.ownsRow base e 4 v n (Al l)):AT w v l/\n=l.length:=by
 obtain⟨hl,h⟩:=h;rw[Iw] at hl;obtain rfl:n=l.length:=by omega
 refine⟨?_,rfl⟩;rcases h with⟨rfl,h0⟩|⟨g,cap,cur,rfl,d,hc,b,hm,hs,c⟩
 ·obtain rfl:=FA.1 h0;exact Cq λ_=>rfl
 ·refine⟨_,cap,rfl,b,nofun,Or.inr ⟨g,0,rfl,?_,λi a j f=>?_⟩⟩
  ·rcases BZ g w.heap.size with h|h
   ·exact h
   ·rw[B8 h] at hc;cases hc
  ·have h1:(cur.toList.take (l.length*4))[i*4+j]?=(Al l)[i*4+j]?:=by rw[c]
   rw[HP (by omega)] at h1;have h2:(Al l)[i*4+j]?=(Bn l[i])[j]?:=by
    have:=Ml l i a;rcases j with _|_|_|_|j
    ·exact this.1
    ·exact this.2.1
    ·exact this.2.2.1
    ·exact this.2.2.2
    ·omega
   rw[h2] at h1;simp only[World.cell?,hc,B2];simpa using h1
theorem gq{B:Nat}{a w:World}(h:Below B a w)(n:Nat):Below B a (w.drewN n):=h.trans ⟨rfl,rfl,rfl,A1 _,λ_ _=>rfl⟩
theorem Cd{w a b:World}(h:Below w w a)(h2:Below a a b):Below w w b:=h.trans (h2.mono h.size)
theorem gr(l:List Us)(u:Us)(e:Int):DF e (l++[u])=u.1+u.2.1:=by rw[fJ];rfl
theorem gu{l:List Us}{k:Nat}(hk:k<l.length)(hm:AE (l.take k)=true){p q c:Int}{o:Bool}(a:l[k]=(p,q,c,o)):
 ((1<=q/\q<=8/\0<=p/\DF 0 (l.take k)<=p/\p+q<=16/\0<=c/\c<=1000000/\(0<c\/o=true))->AE (l.take (k+1))=true/\DF 0 (l.take (k+1))=p+q)/\
 (¬(1<=q/\q<=8/\0<=p/\DF 0 (l.take k)<=p/\p+q<=16/\0<=c/\c<=1000000/\(0<c\/o=true))->AE l=false):=by
 rw[B1 hk,a];constructor
 ·rintro⟨h1,h2,h3,h4,h5,h6,h7,b⟩;exact⟨Vs.2 ⟨hm,CE.2 ⟨h1,h2,h3,h5,h6,h7,b⟩,h4⟩,gr _ _ _⟩
 ·intro d;cases h:AE l with
  |false=>rfl
  |true=>
   have h1:=fK (k:=k+1) h;rw[B1 hk,a] at h1;obtain⟨_,h2,h3⟩:=Vs.1 h1;have h4:=CE.1 h2;exact absurd ⟨h4.1,h4.2.1,h4.2.2.1,h3,h4.2.2.2.1,h4.2.2.2.2.1,h4.2.2.2.2.2.1,h4.2.2.2.2.2.2⟩ d
theorem Ka(v:Value)(l:List Us)(w:World)(A:AT w v l)(hl:l.length<=140737488355328):
 Calls prog 139 #[v] w λe w'=>e= .returned (.bool (AE l))/\Below w w w':=by
 have G:=A0 A;obtain⟨R,S,rfl,V,N,M⟩:=A;clear M N;go_enter func139,ntmps139;go_wp2_with fail;go_loopw [3,8] (λe i wr=>∃k:Nat,k<=l.length/\i= .int .i64 k/\AE (l.take k)=true/\e= .int .i64 (DF 0 (l.take k))/\Below w w wr) (λ_ i _=>l.length-(intOf i).toNat)
 case atStart=>exact⟨0,A7 _,rfl,rfl,rfl,A2 _ _⟩
 case round=>
  obtain⟨k,hk,rfl,hm,rfl,hb⟩:=hrel;obtain⟨s,m⟩:=Hx2 hm hb;have W:=Vr (by omega) (by omega) hm;clear hm hb;by_cases z:k<l.length
  ·obtain⟨b,off,P,U,L⟩:=E6 (Aj G m) z;subst P;obtain⟨t,u,x,y⟩:=L;obtain⟨p,q,c,o,r⟩:∃p q c o,l[k]=(p,q,c,o):=⟨_,_,_,_,rfl⟩;have n:=gu z s r;obtain⟨f,Hgood⟩:=Hx2 n.2 n.1;have O:=m.size;have d:=A0 (m.alloc O (.cells #[p, q, c, .bool o] 47));rw[r] at t u x y;dsimp only at t u x y;have T:(k:Int)<(l.length:Int):=by omega
   have g1:(0:Int)<=(k:Int):=by omega
   clear n r;generalize DF 0 (l.take k)=e at*;by_cases B:q<1
   ·have b0:decide (q<1)=true:=by simpa using B
    have a:=A0 (f (by omega));go_wp2_with fail;go_ret;exact⟨by rw[a.out];rfl,d⟩
   have b0:decide (q<1)=false:=by simpa using B
   by_cases t1:8<q
   ·have b1:decide (8<q)=true:=by simpa using t1
    have a:=A0 (f (by omega));go_wp2_with fail;go_ret;exact⟨by rw[a.out];rfl,d⟩
   have b1:decide (8<q)=false:=by simpa using t1
   by_cases t2:p<e
   ·have b2:decide (p<e)=true:=by simpa using t2
    have a:=A0 (f (by omega));go_wp2_with fail;go_ret;exact⟨by rw[a.out];rfl,d⟩
   have b2:decide (p<e)=false:=by simpa using t2
   by_cases C:16-q<p
   ·have H:decide (16-q<p)=true:=by simpa using C
    have a:=A0 (f (by omega));go_wp2_with fail;go_ret;exact⟨by rw[a.out];rfl,d⟩
   have H:decide (16-q<p)=false:=by simpa using C
   by_cases D:c<0
   ·have I:decide (c<0)=true:=by simpa using D
    have a:=A0 (f (by omega));go_wp2_with fail;go_ret;exact⟨by rw[a.out];rfl,d⟩
   have I:decide (c<0)=false:=by simpa using D
   by_cases E:1000000<c
   ·have J:decide (1000000<c)=true:=by simpa using E
    have a:=A0 (f (by omega));go_wp2_with fail;go_ret;exact⟨by rw[a.out];rfl,d⟩
   have J:decide (1000000<c)=false:=by simpa using E
   by_cases g:c=0
   ·have K:(c==0)=true:=by simpa using g
    have Q:=A0 g;cases o with
    |false=>
     have a:=A0 (f (by intro h;have:=h.2.2.2.2.2.2.2;simp at this;omega));clear g;go_wp2_with fail;go_ret;exact⟨by rw[a.out];rfl,d⟩
    |true=>
     have j:=A0 (Hgood ⟨by omega,by omega,by omega,by omega,by omega,by omega,by omega,Or.inr rfl⟩);clear g;go_wp2_with fail;exact⟨⟨k+1,by omega,by go_num,j.out.1,by rw[j.out.2],d⟩,by simp[intOf];omega⟩
   ·have K:(c==0)=false:=by simpa using g
    have j:=A0 (Hgood ⟨by omega,by omega,by omega,by omega,by omega,by omega,by omega,Or.inl (by omega)⟩);clear g;go_wp2_with fail;exact⟨⟨k+1,by omega,by go_num,j.out.1,by rw[j.out.2],d⟩,by simp[intOf];omega⟩
  ·obtain rfl:k=l.length:=by omega
   have F:Hid (AE l=true):=by have:=s.out;rw[D4] at this;exact this
   go_wp2_with fail;go_ret;exact⟨by rw[F.out];rfl,m⟩
theorem gv{w:World}{a:Option Addr}{n cap:Nat}{l:List Us}(r:AT w (.slice a n cap) l)(i m:Nat):l=[]\/∃b off,a=some ⟨b,off,none⟩/\b<w.heap.size/\∀j u,(Al ((l.drop i).take m))[j]?=some u->w.cell? ⟨b,off+i*4+j,none⟩=some u:=by
 obtain⟨t,v,s,hl,x,hc⟩:=r;injection s with h1 h2 h3;subst h1;rcases hc with rfl|⟨b,off,rfl,hb,f⟩
 ·exact Or.inl rfl
 ·refine Or.inr ⟨b,off,rfl,hb,λj u c=>?_⟩;have o:j<(Al ((l.drop i).take m)).length:=by
   rcases BZ j (Al ((l.drop i).take m)).length with h|h
   ·exact h
   ·rw[E9 h] at c;cases c
  rw[Iw] at o;have hk:j/4<((l.drop i).take m).length:=by omega
  have k:i+j/4<l.length:=by rw[B5,G1] at hk;omega
  have d:=Ml ((l.drop i).take m) (j/4) hk;have g:((l.drop i).take m)[j/4]=l[i+j/4]:=by rw[H9,K4]
  rw[g] at d;have e:=λq (p:q<4)=>f (i+j/4) k q p;have h4:j%4=0\/j%4=1\/j%4=2\/j%4=3:=by omega
  rcases h4 with h|h|h|h
  ·rw[show j=j/4*4 by omega] at c;rw[d.1] at c;rw[show off+i*4+j=off+((i+j/4)*4+0) by omega,e 0 (by omega)];exact c
  ·rw[show j=j/4*4+1 by omega] at c;rw[d.2.1] at c;rw[show off+i*4+j=off+((i+j/4)*4+1) by omega,e 1 (by omega)];exact c
  ·rw[show j=j/4*4+2 by omega] at c;rw[d.2.2.1] at c;rw[show off+i*4+j=off+((i+j/4)*4+2) by omega,e 2 (by omega)];exact c
  ·rw[show j=j/4*4+3 by omega] at c;rw[d.2.2.2] at c;rw[show off+i*4+j=off+((i+j/4)*4+3) by omega,e 3 (by omega)];exact c
theorem Oi(v:Value)(l:List Us)(w:World)(d:AT w v l)(hl:l.length<=1000000):
 Calls prog 117 #[v] w λe w'=>∃h,e= .returned h/\w'.ownsRow w.heap.size 47 4 h l.length (Al l)/\Below w w w':=by
 obtain⟨i0,q,t,x,y⟩:=BW J9;obtain⟨o,g,rfl,E,C,B⟩:=id d;have s:=λf:World=>E3 (P:=prog) f 45 47 o l.length g 0 0 underlying45;clear B;have hr:=gv d 0 l.length;rw[List.drop_zero,D4] at hr;rcases hr with rfl|⟨b,off,rfl,hb,p⟩
 ·cases o with
  |none=>
   obtain rfl:=C rfl;have s:=λf:World=>E3 (P:=prog) f 45 47 none 0 0 0 0 underlying45;clear d;go_enter func117,ntmps117;go_wp2_with fail;go_ret;exact⟨_,rfl,C2 _ _ _ _,A2 _ _⟩
  |some a=>
   have s:=λf:World=>E3 (P:=prog) f 45 47 (some a) 0 g 0 0 underlying45;clear d;have c:=A0 (Vh w 47 4);go_enter func117,ntmps117;go_wp2_with (at_builtin;refine Ho _ rfl _ _ 45 rfl w.heap.size 47 i0 _ 4 32 underlying45 q t x y rfl (by decide) _ _ _ rfl c a 0 g [] rfl (by simp) (λj u m=>by simp at m) (λu D=>by simp at D) (by simp[maxLen]) (by omega) (by simp) ?_;intro h w' n i _)
   go_ret;exact⟨_,rfl,by simpa[Al] using n,((A2 _ _).alloc (A1 _) _).grown i (by simp) (λk hk=>Ah c k hk)⟩
 ·have r:∀j u,(Al l)[j]?=some u->(w.alloc (.cells #[] 47)).cell? ((⟨b,off,none⟩:Addr).add j)=some u:=λj u m=>by
   rw[Bo,HD _ _ _ hb];have:=p j u m;simpa using this
  obtain⟨Hnews,c,A,z⟩:=Hx4 r (Vh w 47 4) (Oh l) (Iw l);clear d p r;go_enter func117,ntmps117;go_wp2_with (at_builtin;refine Ho _ rfl _ _ 45 rfl w.heap.size 47 i0 _ 4 32 underlying45 q t x y rfl (by decide) _ _ _ rfl c ⟨b,off,none⟩ l.length g (Al l) rfl z Hnews A (by simp[maxLen];omega) (by omega) (by simp) ?_;intro h w' n i _)
  go_ret;exact⟨_,rfl,by simpa[Al] using n,((A2 _ _).alloc (A1 _) _).grown i (by simp) (λk hk=>Ah c k hk)⟩
def E7(pre:List Us)(p:Int)(i:Nat):List Bool:=(List.range 16).map λs=>Mj pre s||decide (p<=(s:Int)/\(s:Int)<p+i)
theorem QW(pre:List Us)(p:Int)(i:Nat):(E7 pre p i).length=16:=by simp[E7]
theorem gw(pre:List Us)(p:Int):E7 pre p 0=CP pre:=by
 unfold E7 CP;refine HV λs _=>?_;have:decide (p<=(s:Int)/\(s:Int)<p+(0:Nat))=false:=by simp
 rw[this,Bool.or_false]
theorem gy(pre:List Us){p:Nat}{i:Nat}(_h:p+i<16):(E7 pre p i).set (p+i) true=E7 pre p (i+1):=by
 apply Hf
 ·simp[E7]
 ·intro s h1 h2;rw[HC];by_cases e:p+i=s
  ·subst e;simp[E7];right;omega
  ·rw[A3 e];simp only[E7,HJ,VA];congr 1;rw[decide_eq_decide];omega
theorem gz(pre:List Us)(u:Us){n:Nat}(a:u.2.1=n):E7 pre u.1 n=CP (pre++[u]):=by
 unfold E7 CP;refine HV λs _=>?_;unfold Mj;rw[List.any_append,List.any_cons,List.any_nil,Bool.or_false];unfold QO;rw[a]
theorem gA:CP []=List.replicate 16 false:=by decide
theorem gB(n:Nat):(madeCells #[Value.bool false] n).toList=(List.replicate n false).map Value.bool:=by
 apply Hf
 ·simp[madeCells]
 ·intro i h1 h2;simp[madeCells,S5]
theorem gC(v:Value)(l:List Us)(w:World)(F:AT w v l)(hl:l.length<=140737488355328):
 Calls prog 242 #[v] w λe w'=>∃a cap,e= .returned (.slice a (Iu l).length cap)/\Av w' (.slice a (Iu l).length cap) 1 (λx=>[.bool x]) (Iu l)/\Below w w w':=by
 obtain⟨i0,ab,ag,ah,ai⟩:=BW Vg;have hm:=Ka v l w F hl;have a5:=A0 F;obtain⟨aj,ak,rfl,av,ac,a8⟩:=F;clear a8 ac;cases m:AE l with
 |false=>
  rw[m] at hm;have C:Hid (Iu l=[]):=by unfold Hid Iu;rw[m];rfl
  clear m;go_enter func242,ntmps242;go_wp2_with fail;refine hm.mono ?_;rintro e n ⟨rfl,t⟩;go_wp2_with fail;go_ret;rw[C.out];exact⟨none,0,rfl,Cq λ_=>rfl,t⟩
 |true=>
  rw[m] at hm;have C:Hid (Iu l=CP l):=by unfold Hid Iu;rw[m];rfl
  have a2:=A0 (EX.1 m).1;have aF:=GL m;clear m;go_enter func242,ntmps242;go_wp2_with fail;refine hm.mono ?_;rintro e n ⟨rfl,t⟩;have H:=A0 t;clear t hm;go_wp2_with (first
   |(at_make;refine HZ _ rfl _ _ 25 rfl n.heap.size 4 i0 (.bool false) 1 underlying25 ab ag ah .i64 .i64 _ _ 16 rfl rfl rfl rfl (by rw[ai];omega) (by simp[maxLen]) (A1 _) ?_
     intro Y y U;have S:=(A2 n.heap.size n).grown U (A1 _) (λk hk=>by cases hk);rw[J0] at y;have W:Y.ownsRow n.heap.size 4 1 (.slice (some ⟨n,0,none⟩) 16 16) 16 ((CP []).map Value.bool):=by rw[gA,<-gB];exact y
     obtain⟨Hown2,I⟩:=Hx2 W (Cd H S);have ad:n<Y.heap.size:=AM y _ rfl;clear y U S W)
   |fail)
  obtain⟨g,D⟩:∃g,g=n.heap.size:=⟨_,rfl⟩;have aa:w<=g:=by rw[D];exact H.size
  rw[<-D] at Hown2 ad⊢;clear D;go_loopw [13] (λi wr=>∃k:Nat,k<=l.length/\i= .int .i64 k/\wr.ownsRow g 4 1 (.slice (some ⟨g,0,none⟩) 16 16) 16 ((CP (l.take k)).map Value.bool)/\Below w w wr) (λi _=>l.length-(intOf i).toNat)
  case atStart=>exact⟨0,A7 _,rfl,Hown2,I⟩
  case round=>
   clear Hown2 I;obtain⟨k,hk,rfl,b,r⟩:=hrel;obtain⟨d,f⟩:=Hx2 b r;clear b r;by_cases E:k<l.length
   ·obtain⟨b0,off,af,a7,a6⟩:=E6 (Aj a5 f) E;subst af;obtain⟨K,L,M,N⟩:=a6;have a4:=A0 (B1 E);have V:=CE.1 (a2 l[k] (BA E));generalize l[k]=u at*;obtain⟨P,Q,c,o⟩:=u;dsimp only at K L M N V;obtain⟨aK,aL,aM,aP,_⟩:=V;obtain⟨p,rfl⟩:=G0 (a:=P) (by omega);obtain⟨q,rfl⟩:=G0 (a:=Q) (by omega);have ao:(k:Int)<(l.length:Int):=by omega
    have g1:(0:Int)<=(k:Int):=by omega
    have X:=f.size;have a9:g<wr.heap.size:=AM d _ rfl;have a1:=A0 (gz (l.take k) ((p:Int),(q:Int),c,o) rfl);have HStart:Hid ((wr.alloc (.cells #[(p:Int), (q:Int), c, .bool o] 47)).ownsRow g 4 1 (.slice (some ⟨g,0,none⟩) 16 16) 16 ((E7 (l.take k) p 0).map Value.bool)):=by
     unfold Hid;rw[gw];exact d.alloc _
    have z:=A0 (f.alloc X (.cells #[(p:Int), (q:Int), c, .bool o] 47));have T:(wr.alloc (.cells #[(p:Int), (q:Int), c, .bool o] 47)).cell? ⟨wr,0,none⟩=some (.int .i64 (p:Int)):=by rw[G7];rfl
    have s:=A0 T;clear d f T;go_wp2_with fail;obtain⟨B,O⟩:∃B,B=wr.heap.size:=⟨_,rfl⟩;obtain⟨J,R⟩:∃J,J=wr.alloc (.cells #[(p:Int), (q:Int), c, .bool o] 47):=⟨_,rfl⟩;have ax:g<B:=by omega
    rw[<-O] at s⊢;rw[<-R] at s HStart z⊢;clear O R K L M N a7 a9 X;go_loopw [19] (λi G=>∃j:Nat,j<=q/\i= .int .i64 j/\G.ownsRow g 4 1 (.slice (some ⟨g,0,none⟩) 16 16) 16 ((E7 (l.take k) p j).map Value.bool)/\G.cell? ⟨B,0,none⟩=some (.int .i64 (p:Int))/\Below w w G) (λi _=>q-(intOf i).toNat)
    case atStart=>exact⟨0,A7 _,rfl,HStart,s,z⟩
    case round=>
     clear HStart z s;obtain⟨j,ay,rfl,b,hc,r⟩:=hrel;obtain⟨d,f⟩:=Hx2 b r;clear b r;by_cases aC:j<q
     ·have al:wr.cell? ⟨g,p+j,none⟩=some (.bool ((E7 (l.take k) p j)[p+j]'(by rw[QW];omega))):=by
       rw[d.out.cellAt (p+j) (by omega),Hp,Bl (by rw[QW];omega)];rfl
      have an:wr.frozen? ⟨g,p+j,none⟩=false:=d.frozenAt (p+j);have hs:=(d.stored (p+j) (.bool true)).1;rw[<-I3,gy _ (by omega)] at hs;obtain⟨A,Z⟩:=Hx2 hs (f.setCell (p:=⟨g,p+j,none⟩) aa (.bool true));have a0:Hid ((wr.setCell ⟨g,p+j,none⟩ (.bool true)).cell? ⟨B,0,none⟩=some (.int .i64 (p:Int))):=by
       unfold Hid;rw[J1 _ _ _ _ (by intro h;injection h with h _ _;omega)];exact hc
      have g2:(j:Int)<(q:Int):=by omega
      have ap:(0:Int)<=(j:Int):=by omega
      have aq:(p:Int)+(j:Int)<16:=by omega
      have ar:(0:Int)<=(p:Int)+(j:Int):=by omega
      have au:((p:Int)+(j:Int)).toNat=p+j:=by omega
      clear hs;generalize (E7 (l.take k) p j)[p+j]'(by rw[QW];omega)=bb at*;go_wp2_with fail;exact⟨⟨j+1,by omega,by go_num,A,a0,Z⟩,by simp[intOf];omega⟩
     ·obtain rfl:j=q:=by omega
      have b:=d.out;rw[a1.out,<-a4.out] at b;have a3:=A0 b;clear b hc;go_wp2_with fail;exact⟨⟨k+1,by omega,by go_num,a3,f⟩,by simp[intOf];omega⟩
   ·obtain rfl:k=l.length:=by omega
    have b:=d.out;rw[D4] at b;have hs:=(Cr b).1;have A:=A0 hs;clear b hs;go_wp2_with fail;go_ret;rw[C.out,Iv];exact⟨_,_,rfl,A,f⟩
end Go.Proofs.YtmajkjjjfodhlaaGreatDoor
