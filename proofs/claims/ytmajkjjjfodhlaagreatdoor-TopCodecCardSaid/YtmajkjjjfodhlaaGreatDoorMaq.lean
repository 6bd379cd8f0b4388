/- Part Maq. No condition of its own. -/
import Derived.Test.YtmajkjjjfodhlaaGreatDoorMap
import Derived.Test.YtmajkjjjfodhlaaGreatDoorMao
namespace Go.Proofs.YtmajkjjjfodhlaaGreatDoor
open Go.RowKit Tryz
set_option linter.all false
set_option maxRecDepth 100000
set_option maxHeartbeats 8000000
theorem Rl(d:Dk)(x:Int)(s:ByteArray)(y:Nat):AV (CY d x s) y=if x=(y:Int) then s else AV d y:=by
 unfold AV CY;simp only[W6,List.reverse_cons,List.reverse_nil,B7,P5,List.find?_cons];by_cases h:x=(y:Int)
 ·simp[h]
 ·have:(x==(y:Int))=false:=by simpa using h
  rw[this,A3 h]
def H8(t:List UInt8)(i:Nat):List UInt8:=(t.drop (32*i)).take 32++List.replicate (32-((t.drop (32*i)).take 32).length) 0
def GO(t:ByteArray)(i:Nat):ByteArray:=⟨(H8 t.data.toList i).toArray⟩
theorem jg(t:List UInt8)(i:Nat):(H8 t i).length=32:=by
 unfold H8;rw[A9,C6];have:((t.drop (32*i)).take 32).length<=32:=by rw[B5];omega
 omega
theorem Ww(t:ByteArray)(i:Nat):(GO t i).size=32:=by
 show(H8 t.data.toList i).toArray.size=32;rw[D2,jg]
def Bb(d:Dk)(a:Nat)(t:ByteArray):Nat->Dk
 |0=>d
 |k+1=>CY (Bb d a t k) ((a+k:Nat):Int) (GO t k)
theorem Jl(d:Dk)(a:Nat)(t:ByteArray):∀k,(Bb d a t k).kept=d.kept/\(Bb d a t k).fuse=d.fuse/\(Bb d a t k).keep=d.keep/\(Bb d a t k).dead=d.dead/\(Bb d a t k).cache.length=d.cache.length+k
 |0=>⟨rfl,rfl,rfl,rfl,rfl⟩
 |k+1=>by
  obtain⟨h1,h2,h3,h4,h5⟩:=Jl d a t k;refine⟨h1,h2,h3,h4,?_⟩;show((Bb d a t k).cache++_).length=_;rw[A9,h5];simp;omega
theorem OH(d:Dk)(a:Nat)(t:ByteArray)(y:Nat):∀k,AV (Bb d a t k) y=if a<=y/\y<a+k then GO t (y-a) else AV d y
 |0=>by rw[A3 (by omega)];rfl
 |k+1=>by
  show AV (CY _ _ _) y=_;rw[Rl,OH d a t y k];by_cases h:a+k=y
  ·subst h;rw[A4 rfl,A4 (by omega)];congr 1;omega
  ·rw[A3 (by omega)];by_cases h2:a<=y/\y<a+k
   ·rw[A4 h2,A4 (by omega)]
   ·rw[A3 h2,A3 (by omega)]
def DA(d:Dk)(a k:Nat):List UInt8:=(List.range k).flatMap λi=>(AV d (a+i)).data.toList
theorem Mt(d:Dk)(a k:Nat):DA d a (k+1)=DA d a k++(AV d (a+k)).data.toList:=by
 unfold DA;rw[HL,HB];simp
theorem Wx{d e:Dk}{a k:Nat}(h:∀i,i<k->AV d (a+i)=AV e (a+i)):DA d a k=DA e a k:=by
 induction k with
 |zero=>rfl
 |succ k b=>rw[Mt,Mt,b (λi c=>h i (by omega)),h k (by omega)]
theorem Wy(t:List UInt8):∀k,32*k<=t.length->(List.range k).flatMap (H8 t)=t.take (32*k)
 |0,_=>by simp
 |k+1,h=>by
  rw[HL,HB,Wy t k (by omega)];have h1:((t.drop (32*k)).take 32).length=32:=by rw[B5,G1];omega
  simp only[G8,T6,E5];unfold H8;rw[h1,Hr,W5,E5,Nat.mul_add,J0,<-List.take_add]
theorem jh(t:List UInt8)(k:Nat)(h1:t.length<=32*k)(h2:32*k<t.length+32):((List.range k).flatMap (H8 t)).take t.length=t:=by
 cases k with
 |zero=>
  have:t=[]:=FA.1 (by omega);subst this;rfl
 |succ k=>
  rw[HL,HB,Wy t k (by omega)];simp only[G8,T6,E5];unfold H8;have h3:(t.drop (32*k)).take 32=t.drop (32*k):=E2 (by rw[G1];omega);rw[h3,<-C1,IR,List.take_append_of_le_length (A1 _),E2 (A1 _)]
theorem ji(d:Dk)(a:Nat)(t:ByteArray)(k:Nat)(h1:t.size<=32*k)(h2:32*k<t.size+32):(DA (Bb d a t k) a k).take t.size=t.data.toList:=by
 have e:DA (Bb d a t k) a k=(List.range k).flatMap (H8 t.data.toList):=by
  have h:∀j,j<=k->DA (Bb d a t k) a j=(List.range j).flatMap (H8 t.data.toList):=by
   intro j;induction j with
   |zero=>intro _;rfl
   |succ j b=>
    intro c;rw[Mt,b (by omega),HL,HB,OH,A4 (by omega),VR];simp[GO]
  exact h k (A1 _)
 have hs:t.data.toList.length=t.size:=by rw[Hy];rfl
 rw[e,<-hs];exact jh _ _ (by omega) (by omega)
theorem jj(d:Dk){a b:Nat}(t:ByteArray){k m:Nat}(h:b+m<=a\/a+k<=b):DA (Bb d a t k) b m=DA d b m:=
 Wx λi c=>by rw[OH,A3 (by omega)]
theorem Wz{d:Dk}{a:Nat}:∀{k:Nat},(∀i,i<k->(AV d (a+i)).size=32)->(DA d a k).length=32*k
 |0,_=>rfl
 |k+1,h=>by
  rw[Mt,A9,Wz λi b=>h i (by omega)];have:=h k (by omega);have e:(AV d (a+k)).data.toList.length=(AV d (a+k)).size:=by rw[Hy];rfl
  omega
theorem jk(l:List ByteArray)(y:Nat)(hy:y<l.length):∀(c:List (Int×ByteArray)),(∀p∈c,0<=p.1)->(Eh l c).getD y ByteArray.empty=match c.reverse.find? (λp=>p.1==(y:Int)) with
 |some p=>p.2
 |none=>l.getD y ByteArray.empty:=by
 intro c;induction hc:c.length generalizing c with
 |zero=>intro _;rw[FA.1 hc];rfl
 |succ n g=>
  intro h;obtain⟨a,q,rfl⟩:∃a q,c=a++[q]:=⟨c.dropLast,c.getLast (by intro e;rw[e] at hc;simp at hc),(List.dropLast_concat_getLast _).symm⟩;have i:=h q (by simp);have d:=g a (by simpa using hc) (λp hp=>h p (by simp[hp]));unfold Eh at d⊢;rw[NV,W6];simp only[K0,List.foldl_nil,List.reverse_cons,List.reverse_nil,B7,P5,List.find?_cons];by_cases e:q.1=(y:Int)
  ·have b:q.1.toNat=y:=by omega
   have hl:y<(a.foldl (λl p=>l.set p.1.toNat p.2) l).length:=by
    have:=Mr l a;unfold Eh at this;omega
   rw[b,B9,K1 hl];simp[e]
  ·have b:q.1.toNat≠y:=by omega
   have f:(q.1==(y:Int))=false:=by simpa using e
   rw[B9,N6 b,<-B9,d,f]
theorem Rm{d:Dk}{y:Nat}(hy:y<d.kept.length)(h:∀p∈d.cache,0<=p.1):AV (Bu d) y=AV d y:=by
 have:=jk d.kept y hy d.cache h;unfold AV Bu;exact this
theorem Jm{w a b:World}(h:Below w w a)(h2:Below a a b):Below w w b:=h.trans (h2.mono h.size)
abbrev Ki(w:World)(v:Value)(l:List Int):Prop:=Av w v 1 (λx=>[.int .i64 x]) l
theorem jl(v:Value)(bs:List Int)(w:World)(i:Ki w v bs)(hl:bs.length<=1000000)(hp:0<bs.length):
 Calls prog 164 #[v] w λe w'=>∃c,e= .returned c/\DD w.heap.size w' c bs/\Below w w w':=by
 obtain⟨i0,n,r,s,t⟩:=BW NI;rcases Da i with⟨rfl,a0,c0,rfl,A⟩|⟨B,b0,f,c0,rfl,z,l,g⟩
 ·simp at hp
 ·have C:=λy:World=>E3 (P:=prog) y 73 3 (some ⟨b0,f,none⟩) bs.length c0 0 0 underlying73;have h:∀(j:Nat) (u:Value),(bs.map (Value.int .i64))[j]?=some u->(w.alloc (.cells #[] 3)).cell? ((⟨b0,f,none⟩:Addr).add j)=some u:=by
   intro j u a;rw[Bo,HD _ _ _ l];rw[Hp] at a;cases d:bs[j]? with
   |none=>rw[d] at a;cases a
   |some x=>
    rw[d] at a;obtain⟨o,rfl⟩:=N2.1 d;rw[g j o];exact a
  have Hnews:=A0 h;clear h g i;go_enter func164,ntmps164;go_wp2_with (at_builtin;refine Ho _ rfl _ _ 73 rfl w.heap.size 3 i0 (.int .i64 0) 1 8 underlying73 n r s t rfl (by decide) _ _ _ rfl (TU w 3 1) ⟨b0,f,none⟩ bs.length c0 (bs.map (Value.int .i64)) rfl ?hl Hnews ?h1 ?h63 ?hby ?hbase ?_)
  case hl=>simp
  case h1=>exact λu q=>by obtain⟨b,_,rfl⟩:=E1.1 q;rfl
  case h63=>simp[maxLen];omega
  case hby=>omega
  case hbase=>simp
  intro c w' p m _;go_wp2
  go_ret;exact⟨c,rfl,by unfold DD;simpa using p,((A2 _ _).alloc (A1 _) _).grown m (by simp) (λk hk=>by simp only[Value.ownBlock,Hs] at hk;omega)⟩
theorem jm(v:Value)(l:List Int)(w:World)(r:Ki w v l)(hl:l.length<=1000000)(hp:0<l.length):
 Calls prog 166 #[v] w λe w'=>∃m,e= .returned (.int .i64 m)/\Hid (m∈l/\∀x∈l,x<=m)/\w=w':=by
 rcases Da r with⟨rfl,_⟩|⟨_,b0,E,c0,rfl,B,A,d⟩
 ·simp at hp
 ·have p:=d 0 hp;rw[Hb] at p;have Hcell:=A0 d;have u:(0:Int)<(l.length:Int):=by omega
  have g1:¬(l.length:Int)<1:=by omega
  clear d r;obtain⟨h,g⟩:∃h,l[0]=h:=⟨_,rfl⟩;rw[g] at p;have Hx0:=A0 g;clear g;go_enter func166,ntmps166;go_wp2
  go_loop [3,4] (λm i=>∃(k:Nat) (y:Int),1<=k/\k<=l.length/\i= .int .i64 k/\m= .int .i64 y/\y∈l/\∀x∈l.take k,x<=y) (λ_ i=>l.length-(intOf i).toNat)
  case atStart=>
   refine⟨1,h,A1 _,hp,rfl,rfl,by rw[<-Hx0.out];exact BA hp,λx b=>?_⟩;rw[show l.take 1=[l[0]] by rw[List.take_one,List.head?_eq_getElem?,Bl hp];rfl] at b;rw[B6.1 b,Hx0.out];exact E4 _
  case round=>
   obtain⟨k,y,C,hk,rfl,rfl,hy,q⟩:=hrel;obtain⟨o,c⟩:=Hx2 hy q;clear hy q;by_cases f:k<l.length
   ·have t:=Hcell k f;obtain⟨n,s⟩:=Hx2 (B1 f) (BA f);have g2:(k:Int)<(l.length:Int):=by omega
    have z:(0:Int)<=(k:Int):=by omega
    generalize l[k]=x at*;by_cases D:y<x
    ·go_wp2
     refine⟨⟨k+1,x,by omega,by omega,by go_num,by first|rfl|(congr 1;omega),s,λj a=>?_⟩,by simp[intOf];omega⟩;rw[n.out,GA,B6] at a;rcases a with a|rfl
     ·have:=c j a;omega
     ·exact E4 _
    ·go_wp2
     refine⟨⟨k+1,y,by omega,by omega,by go_num,by first|rfl|(congr 1;omega),o,λj a=>?_⟩,by simp[intOf];omega⟩;rw[n.out,GA,B6] at a;rcases a with a|rfl
     ·exact c j a
     ·omega
   ·obtain rfl:k=l.length:=by omega
    go_wp2
    go_ret;exact⟨y,rfl,⟨o,λx b=>c x (by rw[D4];exact b)⟩,rfl⟩
def GP(f:List Int):Bool:=decide (f.length<=300)&&f.all λn=>decide (0<=n/\n<=100000)
theorem OI{f:List Int}:GP f=true↔f.length<=300/\∀x∈f,0<=x/\x<=100000:=by
 simp only[GP,Hz,E0,HH]
def Rn(f L:List Int):Prop:=(GP f=true->Ea f L)/\(GP f=false->L=[])
theorem Ro{f:List Int}(h:GP f=false):Rn f []:=⟨λa=>absurd a (by rw[h];decide),λ_=>rfl⟩
theorem jn:Rn [] []:=⟨λ_=> .stop (Or.inl ⟨rfl,rfl⟩) (λx a=>by cases a),λ_=>rfl⟩
theorem Rp{B:Nat}{w:World}{v:Value}{L:List Int}(h:DD B w v L):Ki w v L:=(Cr h).1
def Gi(g:List Int)(k:Nat):List Int:=halve (g.take k)++g.drop k
theorem jo(g:List Int)(k:Nat)(_hk:k<=g.length):(Gi g k).length=g.length:=by
 unfold Gi;rw[A9,G4,B5,G1];omega
theorem WB{g:List Int}{k:Nat}(hk:k<g.length):(Gi g k)[k]?=some g[k]:=by
 unfold Gi;rw[HU (by rw[G4,B5];omega),G4,B5,HR (by omega),Hr,RX,Hb,Bl hk]
theorem WC{g:List Int}{k:Nat}(hk:k<g.length):(Gi g k).set k ((g[k]+1)/2)=Gi g (k+1):=by
 have hl:(halve (g.take k)).length=k:=by rw[G4,B5];omega
 have a:g.drop k=g[k]::g.drop (k+1):=T3 hk;have b:halve (g.take (k+1))=halve (g.take k)++[(g[k]+1)/2]:=by
  rw[B1 hk];simp only[halve,D1];rfl
 have:(halve (g.take k)++g[k]::g.drop (k+1)).set k ((g[k]+1)/2)=halve (g.take k)++(g[k]::g.drop (k+1)).set (k-k) ((g[k]+1)/2):=by
  rw[PL _ _ (by omega),hl]
 unfold Gi;rw[a,this,Hr,HM,b,C1];rfl
theorem jp{g:List Int}{k:Nat}(hk:k<g.length)(h0:g[k]=0):Gi g k=Gi g (k+1):=by
 rw[<-WC hk,h0];apply I2;intro i;by_cases e:k=i
 ·subst e;rw[K1 (by rw[jo g k (by omega)];exact hk),WB hk,h0];rfl
 ·rw[N6 e]
theorem jq(v:Value)(f:List Int)(w:World)(a6:Ki w v f)(hl:f.length<=140737488355328):
 Calls prog 77 #[v] w λe w'=>∃(a:Option Addr) (cap:Nat) (L:List Int),e= .returned (.slice a L.length cap)/\Hid (Rn f L)/\Ki w' (.slice a L.length cap) L/\Below w w w':=by
 have J:=A0 a6;obtain⟨aK,aM,rfl,b4,av,aq⟩:=a6;clear aq av;by_cases h0:f.length=0
 ·obtain rfl:=FA.1 h0;have R:(([]:List Int).length:Int)=0:=rfl;go_enter func77,ntmps77;go_wp2_with fail;go_ret;exact⟨none,0,[],rfl,jn,Cq λ_=>rfl,A2 _ _⟩
 by_cases aX:300<f.length
 ·have a2:GP f=false:=by
   cases h:GP f with
   |false=>rfl
   |true=>have:=(OI.1 h).1;omega
  have j:=A0 a2;clear a2;have R:((f.length:Int)==0)=false:=by simp;exact λh=>h0 (by rw[h];rfl)
  have d1:decide ((300:Int)<(f.length:Int))=true:=by simp;omega
  have g1:(300:Int)<(f.length:Int):=by omega
  go_enter func77,ntmps77;go_wp2_with fail;go_ret;exact⟨none,0,[],rfl,Ro j,Cq λ_=>rfl,A2 _ _⟩
 have R:((f.length:Int)==0)=false:=by simp;exact λh=>h0 (by rw[h];rfl)
 have g1:¬(300:Int)<(f.length:Int):=by omega
 have d1:decide ((300:Int)<(f.length:Int))=false:=by simp;omega
 go_enter func77,ntmps77;go_wp2_with fail;go_loop [19] (λi=>∃k:Nat,k<=f.length/\i= .int .i64 k/\∀x∈f.take k,0<=x/\x<=100000) (λi=>f.length-(intOf i).toNat)
 case atStart=>exact⟨0,A7 _,rfl,by simp⟩
 case round=>
  obtain⟨k,hk,rfl,S⟩:=hrel;have z:=A0 S;clear S;by_cases d:k<f.length
  ·rcases Da J with⟨rfl,_⟩|⟨_,aL,b6,aP,ay,_,b3,Q⟩
   ·simp at d
   injection ay with q1 q2 q3;subst q1 q3;have al:=Q k d;have ac:=A0 (B1 d);have a0:f[k]∈f:=BA d;have U:¬(0<=f[k]/\f[k]<=100000)->GP f=false:=λb=>by
    cases h:GP f with
    |false=>rfl
    |true=>exact absurd ((OI.1 h).2 _ a0) b
   have O:=A0 U;have g2:(k:Int)<(f.length:Int):=by omega
   have an:(0:Int)<=(k:Int):=by omega
   clear Q q2 a0 U;generalize f[k]=x at*;by_cases t:x<0
   ·have j:=A0 (O (by omega));have b1:decide (x<0)=true:=by simpa using t
    go_wp2_with fail;go_ret;exact⟨none,0,[],rfl,Ro j,Cq λ_=>rfl,A2 _ _⟩
   by_cases a7:100000<x
   ·have j:=A0 (O (by omega));have b1:decide (x<0)=false:=by simpa using t
    have b2:decide (100000<x)=true:=by simpa using a7
    go_wp2_with fail;go_ret;exact⟨none,0,[],rfl,Ro j,Cq λ_=>rfl,A2 _ _⟩
   have b1:decide (x<0)=false:=by simpa using t
   have b2:decide (100000<x)=false:=by simpa using a7
   go_wp2_with fail;exact⟨⟨k+1,by omega,by go_num,λy hy=>by
    rw[ac.out,GA,B6] at hy;rcases hy with hy|rfl
    ·exact z y hy
    ·omega⟩,by simp[intOf];omega⟩
  ·obtain rfl:k=f.length:=by omega
   have G:∀x∈f,0<=x/\x<=100000:=by have:=z.out;rwa [D4] at this
   have Z:GP f=true:=OI.2 ⟨by omega,G⟩;obtain⟨aa,HRange⟩:=Hx2 Z G;clear Z G z;go_wp2_with fail;refine(jl _ f w J (by omega) (by omega)).mono ?_;rintro e b9 ⟨b7,rfl,F,T⟩;obtain⟨g,cap,rfl,ao,b5⟩:=F.form (by omega);obtain⟨Hown1,M⟩:=Hx2 F T;clear F T;go_wp2_with fail;go_loopg [6] f.sum.toNat (λn _ wr=>∃h:List Int,h.length=f.length/\h.sum.toNat<=n/\DD w.heap.size wr (.slice (some ⟨g,0,none⟩) f.length cap) h/\(∀x∈h,0<=x/\x<=100000)/\(∀L,Ea h L->Ea f L)/\Below w w wr)
   case atStart=>exact⟨f,rfl,A1 _,Hown1,HRange,λL h=>h,M⟩
   case round=>
    obtain⟨h,Y,a5,E,H,W,hb⟩:=hrel;obtain⟨c,aj,P,o,Hchain,K⟩:=Hx6 Y a5 E H W hb;have X:=cZ _ h wr (by have:=Rp E;exact this) (by omega) (λx b=>by have:=H x b;omega);clear Y a5 E H W hb Hown1 M;go_wp2_with fail;refine X.mono ?_;rintro e a8 ⟨b8,L,rfl,s,D,B⟩;have u:Hid (L.length=f.length):=by unfold Hid;rw[TI D];exact c
    obtain⟨aV,aT,rfl,b0,_⟩:=s.form (by have:=u.out;omega);obtain⟨Honce,Hown2,N,HownW⟩:=Hx4 D s (Jm K B) (Ag P B);have a1:=jm _ L a8 (Rp s) (by have:=u.out;omega) (by have:=u.out;omega);clear X D s B;go_wp2_with fail;refine a1.mono ?_;rintro e bb ⟨m,rfl,hm,rfl⟩;clear a1;by_cases au:m<=15
    ·have a3:I7 L:=λx b=>by have:=hm.out.2 x b;omega
     have ab:=A0 a3;clear a3;go_wp2_with fail;go_ret;exact⟨_,_,L,rfl,⟨λ_=>Hchain L (.stop Honce ab),λh=>by rw[aa.out] at h;cases h⟩,Rp Hown2,N⟩
    ·have C:¬I7 L:=λh=>au (h m hm.out.1);have ar:=bg Honce (λx b=>(o x b).1) (by have:=c.out;omega) C;have ax:0<=(halve h).sum:=by
      have:∀l:List Int,(∀x∈l,0<=x)->0<=l.sum:=by
       intro l;induction l with
       |nil=>intro _;simp
       |cons x l aF=>intro q;have:=q x (Hh ..);have:=aF λy hy=>q y (G2 _ hy);simp only[L3];omega
      exact this _ (PY λx b=>(o x b).1)
     have ag:Hid ((halve h).sum.toNat<gk):=by unfold Hid;have:=aj.out;omega
     have af:Hid (∀L,Ea (halve h) L->Ea f L):=λak ap=>Hchain ak (.halve Honce C ap);have ah:Hid (∀x∈halve h,0<=x/\x<=100000):=λx b=>⟨PY (λx b=>(o x b).1) x b,be (by omega) (λx b=>(o x b).2) x b⟩;clear ar ax C Honce Hown2 P K Hchain hm;go_wp2_with fail;obtain⟨a9,aC⟩:∃a9:World,a9=a8:=⟨_,rfl⟩;subst aC;go_loopw [40] (λi wr=>∃k:Nat,k<=f.length/\i= .int .i64 k/\wr.ownsRow w.heap.size 3 1 (.slice (some ⟨g,0,none⟩) f.length cap) f.length ((Gi h k).map (Value.int .i64))/\Below w w wr) (λi _=>f.length-(intOf i).toNat)
     case atStart=>exact⟨0,A7 _,rfl,by have q:=HownW.out;unfold DD at q;rw[c.out] at q;exact q,N⟩
     case round=>
      obtain⟨k,hk,rfl,a4,V⟩:=hrel;obtain⟨Hownk,A⟩:=Hx2 a4 V;clear a4 V;by_cases d:k<f.length
      ·have r:k<h.length:=by rw[c.out];exact d
       have al:wr.cell? ⟨g,k,none⟩=some (.int .i64 h[k]):=by rw[Hownk.out.cellAt k (by omega),Hp,WB r];rfl
       have aU:=Hownk.frozenAt k;have b:=o h[k] (BA r);have Hskip:=A0 (λq=>jp r q);have I:=(Hownk.stored k (.int .i64 ((h[k]+1)/2))).1;rw[<-I3,WC r] at I;obtain⟨ai,ad⟩:=Hx2 I (A.setCell (p:=⟨g,k,none⟩) ao (.int .i64 ((h[k]+1)/2)));have g2:(k:Int)<(f.length:Int):=by omega
       have an:(0:Int)<=(k:Int):=by omega
       obtain⟨bc,bl⟩:=b;clear I;generalize h[k]=x at*;clear r;by_cases t:0<x
       ·have bp:0<=x+1:=by omega
        go_wp2_with fail;exact⟨⟨k+1,by omega,by go_num,ai,ad⟩,by simp[intOf];omega⟩
       ·obtain rfl:x=0:=by omega
        go_wp2_with fail;exact⟨⟨k+1,by omega,by go_num,by rw[<-Hskip.out rfl];exact Hownk,A⟩,by simp[intOf];omega⟩
      ·obtain rfl:k=f.length:=by omega
       go_wp2_with fail
       go_roundg (halve h).sum.toNat
       case measure=>exact ag
       case rel=>
        refine⟨halve h,by rw[G4];exact c,A1 _,?_,ah,af,A⟩;have q:=Hownk.out;have e:Gi h f.length=halve h:=by
         unfold Gi;rw[E2 (by rw[c.out];exact A1 _),List.drop_of_length_le (by rw[c.out];exact A1 _),E5]
        rw[e] at q;unfold DD;rw[G4,c.out];exact q
theorem jr{a b c:World}{row:Option Nat}(h:a.grownBy b row)(k:b.grownBy c row):a.grownBy c row:=
 ⟨k.os.trans h.os,k.tape.trans h.tape,k.output.trans h.output,A8 h.size k.size,λi d hr=>(k.block i (B3 d h.size) hr).trans (h.block i d hr)⟩
theorem WD{w w':World}(h:Below w w w')(row:Option Nat):w.grownBy w' row:=⟨h.os,h.tape,h.output,h.size,λi a _=>h.block i a⟩
abbrev ES(w:World)(base:Nat)(v:Value)(bs:List Bool):Prop:=w.ownsRow base 4 1 v bs.length (bs.map .bool)
theorem WF(w:World)(base:Nat):ES w base (.slice none 0 0) []:=C2 _ _ _ _
theorem OJ(v:Value)(bs:List Bool)(n width:Int)(w:World)(base:Nat)(j:ES w base v bs)(H:base<=w.heap.size)(hl:bs.length<=140737488355200)(i:EK n width=true):
 Calls prog 78 #[v, n, width] w λe w'=>∃(a:Option Addr) (cap:Nat) (l:List Bool),e= .returned (.slice a l.length cap)/\Hid (l=bs++Ar n width.toNat)/\ES w' base (.slice a l.length cap) l/\w.grownBy w' v.ownBlock/\
  ((Value.slice a l.length cap).ownBlock=v.ownBlock\/∃g,(Value.slice a l.length cap).ownBlock=some g/\w.heap.size<=g):=by
 obtain⟨i0,z,C,D,E⟩:=BW LG;have J:width.toNat<=30:=by simp only[EK,E0] at i;omega
 have hp:=ZY (.slice none 0 0) [] n width w (Cq λ_=>rfl) (by simp) i;have t:=A0 j;obtain⟨F,G,rfl,_⟩:=Aw j;clear j i;go_enter func78,ntmps78;go_wp2_with fail;refine hp.mono ?_;rintro e L ⟨a1,c1,d,rfl,p,A,c⟩;obtain⟨u,r⟩:=Hx2 (Ag t c) c;have I:d.length<=30:=by rw[p.out];simp[Ci];omega
 have B:=c.size;clear hp c
 go_wp2_with (first|(at_builtin;refine MR (f:=Value.bool) rfl _ _ 25 rfl base 4 i0 (.bool false) 1 underlying25 z C D E rfl _ _ _ rfl u _ rfl A (λ_=>rfl) (by simp[maxLen];omega) (by omega) (by omega) ?_
                     intro K M k o m;obtain⟨y,c2,rfl,_⟩:=Aw k;obtain⟨x,s,q⟩:=Hx3 k o m;clear k o m)|fail)
 go_ret;have b:(bs++d).length=bs.length+d.length:=A9;refine⟨y,c2,bs++d,by rw[b];rfl,by unfold Hid;rw[p.out,B7],?_,jr (WD r _) s,?_⟩
 ·rw[b];unfold ES;rw[b,D1];exact x
 ·rw[b];rcases q.out with h|h
  ·exact Or.inl h
  ·exact Or.inr ⟨_,h,B⟩
theorem js(v:Value)(bs:List Bool)(n width:Int)(w:World)(f:Gy w v bs)(hl:bs.length<=140737488355232)(d:EK n width=true):
 Calls prog 167 #[v, n, width] w λe w'=>∃(a:Option Addr) (cap:Nat) (l:List Bool),e= .returned (.tuple #[.slice a l.length cap, .bool true])/\Hid (l=bs++Ar n width.toNat)/\ES w' w.heap.size (.slice a l.length cap) l/\Below w w w':=
 (SH v bs n width w f hl d).mono λe w' ⟨g,c,b,hb⟩=>by
  obtain⟨a,cap,rfl,_⟩:=Aw b;exact⟨a,cap,_,c,rfl,b,hb⟩
theorem jt(v:Value)(l:List Int)(x:Int)(w:World)(M:Av w v 1 (λx=>[.int .i64 x]) l)(hl:l.length<=140737488355328)(h:Nk l x=true):
 Calls prog 79 #[v, x] w λe w'=>∃(a:Option Addr) (cap:Nat) (b:List Bool),e= .returned (.tuple #[.slice a b.length cap, .bool true])/\Hid (b=BI l x.toNat)/\ES w' w.heap.size (.slice a b.length cap) b/\Below w w w':=by
 obtain⟨d,N,X,g⟩:=Tn.1 h;obtain⟨s,rfl⟩:=G0 N;rw[BY] at g⊢;have hs:s<l.length:=by omega
 rw[Bl hs,D0] at g;have U:=(D7 d).1;have W:=(D7 d).2.1 l[s] (BA hs);have D:=A0 (ZZ d hs g);have G:Hid (BI l s=Ar (DC l s) l[s].toNat):=by unfold Hid BI;rw[Bl hs,D0]
 have k:=Tm v l w M hl;rw[Tl d,d] at k;have q:Ij l s=(l[s],DC l s):=by
  unfold Ij;rw[Bl hs,D0,A4 (by omega)]
 obtain⟨B,O,i,A⟩:=Hx4 q d (Te l) (ZI hs);clear d h q;go_enter func79,ntmps79;go_wp2_with fail;refine k.mono ?_;rintro e o ⟨Z,rfl,z,r⟩;clear k;rcases ZH z with⟨h0,_⟩|⟨hp,b0,Y,c0,rfl,t,V,p⟩
 ·have:=i.out;rw[h0] at this;simp at this;omega
 ·have u:=p s (by rw[i.out];exact hs);rw[A.out,B.out] at u;rw[i.out];obtain⟨R,S⟩:=u;have H:=t;rw[i.out] at H;have j:=A0 r;have T:(s:Int)<(l.length:Int):=by omega
  have g1:(0:Int)<=(s:Int):=by omega
  have P:=A0 g;have K:¬(l[s]=0):=g;clear p z r t hp g;generalize DC l s=C at*;generalize l[s]=n at*;have d1:decide ((s:Int)<0)=false:=by simp
  have d2:decide (l.length<=s)=false:=by simp;omega
  have Q:(n==0)=false:=by simpa using K
  have y:∀f,Ch o f->Calls prog 167 #[.slice none 0 0, C, n] f λe w'=>∃(a:Option Addr) (cap:Nat) (l:List Bool),e= .returned (.tuple #[.slice a l.length cap, .bool true])/\Hid (l=Ar C n.toNat)/\ES w' w.heap.size (.slice a l.length cap) l/\Below f f w':=λf F=>
   (js (.slice none 0 0) [] C n f (Cq λ_=>rfl) (by simp) D).mono λe w' ⟨a,c,m,h1,h2,h3,h4⟩=>⟨a,c,m,h1,by rw[B7] at h2;exact h2,CI h3 (A8 j.size F.2.size),h4⟩
  go_wp2_with fail;go_region_held3 (Ch o) (first|exact IS|exact IQ (by assumption) (by assumption)) (first|(go_at_call 167;refine(y _ (by assumption)).mono ?_;rintro e w' ⟨E,c2,m,rfl,J,L,hb⟩))
  have I:Ch o w':=by assumption
  clear y;go_wp2_with fail;refine A5 (C3 rfl _ _ _) rfl ?_;exact⟨E,c2,m,rfl,by unfold Hid;rw[J.out,G.out],L,j.trans (I.2.mono j.size)⟩
theorem ju(w:World)(b c d:Value)(t:TypeId):∃a,w.alloc (.cells #[b,c,d] t)=a/\
 a.cell? ⟨w,0,none⟩=some b/\a.cell? ⟨w,1,none⟩=some c/\a.cell? ⟨w,2,none⟩=some d/\w<a.heap.size/\Below w w a:=
 ⟨_,rfl,by simp,by simp,by simp,by simp,(A2 _ _).alloc (A1 _) _⟩
theorem jv{w a:World}{g:Nat}{c d e:Value}(hb:Below w w a)(b:g<w.heap.size)(f:w.cell? ⟨g,0,none⟩=some c)(h:w.cell? ⟨g,1,none⟩=some d)(i:w.cell? ⟨g,2,none⟩=some e):
 a.cell? ⟨g,0,none⟩=some c/\a.cell? ⟨g,1,none⟩=some d/\a.cell? ⟨g,2,none⟩=some e:=
 ⟨by rw[hb.cell (p:=⟨g,0,none⟩) b];exact f,by rw[hb.cell (p:=⟨g,1,none⟩) b];exact h,by rw[hb.cell (p:=⟨g,2,none⟩) b];exact i⟩
theorem jw{w a b:World}(h:Below w w a)(h2:Below a a b):Below w w b:=h.trans (h2.mono h.size)
theorem WG(b d n:Int)(w:World):
 Calls prog 76 #[.agg #[b, d, n]] w λe w'=>e= .returned (.int .i64 (AC (b,d,n)))/\Below w w w':=by
 obtain⟨v,x,i,j,k,m,l⟩:=ju w (.int .i64 b) (.int .i64 d) (.int .i64 n) 145;have hc:=Qu b d n v;go_enter func76,ntmps76;go_wp2_with fail;clear x;refine hc.mono ?_;rintro e A ⟨rfl,h⟩;obtain⟨i,j,k⟩:=jv h m i j k;have g:=A0 (jw l h);clear h l hc m;by_cases hm:AJ (b,d,n)=true
 ·obtain⟨o,p,r,s⟩:=LT hm;have hp:=JL hm;obtain⟨t,u⟩:=Hx2 r s;clear r s;by_cases f:0<n
  ·have d1:decide (0<n)=true:=by simpa using f
   have c:=(t f).1;have a:=A0 c;have y:IntKind.i64.wrap (253+n)=253+n:=by rw[H2];omega
   clear c o p hp;go_wp2_with fail;go_ret;exact⟨by rw[a.out];rfl,g⟩
  ·have d1:decide (0<n)=false:=by simpa using f
   have c:=(u f).1;have a:=A0 c;clear c o p hp;go_wp2_with fail;go_ret;exact⟨by rw[a.out];rfl,g⟩
 ·have z:AJ (b,d,n)=false:=by cases q:AJ (b,d,n) with
   |true=>exact absurd q hm
   |false=>rfl
  have a:=A0 (TJ z);clear hm;go_wp2_with fail;go_ret;exact⟨by rw[a.out];rfl,g⟩
theorem WH{w:World}{v:Value}{l:List An}(d:Jf w v l)(hp:0<l.length):
 ∃b off cap,v= .slice (some ⟨b,off,none⟩) l.length cap/\l.length<=cap/\b<w.heap.size/\∀k (hk:k<l.length),w.cell? ⟨b,off+k*3,none⟩=some (.int .i64 l[k].1)/\w.cell? ⟨b,off+k*3+1,none⟩=some (.int .i64 l[k].2.1)/\w.cell? ⟨b,off+k*3+2,none⟩=some (.int .i64 l[k].2.2):=by
 obtain⟨a,cap,rfl,hl,e,hc⟩:=d;rcases hc with rfl|⟨b,off,rfl,hb,c⟩
 ·exact absurd hp (by simp)
 ·exact⟨b,off,cap,rfl,hl,hb,λk hk=>⟨by simpa using c k hk 0 (by omega),by simpa[Hl] using c k hk 1 (by omega),by simpa[Hl] using c k hk 2 (by omega)⟩⟩
theorem jx{P:Program}{ops:Array Oper}{rest:List Oper}{o:Oper}{a:Act}{w:World}{Q:Exit->Act->World->Prop}(d:o.guard=none)(t:TypeId)(f:o.op= .alloc t)(cs:List Value)(i:TypeInfo)(e:P.info? t=some i)(j:i.zero=some (.agg cs.toArray))
 (h:∀b,Ba b w.heap.size t cs->Below w w b->b=w.heap.size+1->wpList P ops Q rest (a.put o.dst (.pointer (some ⟨w,0,none⟩))) b):wpList P ops Q (o::rest) a w:=
 wpList_plain d λ_ c=>by
  have g:(Instr.alloc t true (.tuple #[])).run P w= .ok (.pointer (some ⟨w,0,none⟩)) (w.alloc (.cells cs.toArray t)):=by
   simp[Instr.alloc,zeroValue,run_typeInfo w e,j,newVar,newRow,Value.cells]
  unfold Oper.wp execOp;simp only[f,Q2,Sem.run_pure,g,Result.andThen_ok];exact c _ _ (h _ (JI w cs t) ((A2 _ _).alloc (A1 _) _) (by simp))
theorem jy:(prog.info? 148).map (λi=>(i.zero,i.size,i.bytes))=some (some (.agg (List.replicate 272 (Value.slice none 0 0)).toArray),272,6528):=by kernel_rfl
def FQ(w:World)(K:Nat)(o:Option Nat)(L:List Int)(k:Nat):Prop:=
 ∃cs:List Value,cs.length=272/\Ba w K 148 cs/\∀s,s<k->0<L[s]?.getD 0->∃g cap,cs[s]?=some (.slice (some ⟨g,0,none⟩) (BI L s).length cap)/\(BI L s).length<=cap/\K<g/\g<w.heap.size/\o≠some g/\
  ∀i (a:i<(BI L s).length),w.cell? ⟨g,i,none⟩=some (.bool (BI L s)[i])
theorem jz{w:World}{K:Nat}{o:Option Nat}{L:List Int}(h:Ba w K 148 (List.replicate 272 (Value.slice none 0 0))):FQ w K o L 0:=
 ⟨_,C6 ..,h,λs hs=>by omega⟩
theorem Rr{w w':World}{K k:Nat}{o o':Option Nat}{L:List Int}{row:Option Nat}(h:FQ w K o L k)(a:w.grownBy w' row)(hr:row=none\/row=o)(b:some K≠row)(f:o'=o\/∃g,o'=some g/\w.heap.size<=g):FQ w' K o' L k:=by
 obtain⟨cs,hl,ha,hc⟩:=h;refine⟨cs,hl,Tj ha a b,λs hs hp=>?_⟩;obtain⟨g,cap,h1,h2,h3,h4,h5,h6⟩:=hc s hs hp;have d:some g≠row:=by
  rcases hr with rfl|rfl
  ·simp
  ·exact λe=>h5 e.symm
 refine⟨g,cap,h1,h2,h3,B3 h4 a.size,?_,λi c=>?_⟩
 ·rcases f with rfl|⟨q,rfl,j⟩
  ·exact h5
  ·simp only[ne_eq,Hs];omega
 ·rw[Q3 (w:=w) (a.block g h4 d)];exact h6 i c
theorem Rs{w w':World}{K k:Nat}{o:Option Nat}{L:List Int}(h:FQ w K o L k)(hb:Below w w w'):FQ w' K o L k:=
 Rr h (WD hb none) (Or.inl rfl) (by simp) (Or.inl rfl)
theorem jA{w:World}{K k:Nat}{o:Option Nat}{L:List Int}(h:FQ w K o L k)(h0:¬0<L[k]?.getD 0):FQ w K o L (k+1):=by
 obtain⟨cs,hl,ha,hc⟩:=h;refine⟨cs,hl,ha,λs hs hp=>?_⟩;by_cases e:s=k
 ·subst e;exact absurd hp h0
 ·exact hc s (by omega) hp
theorem jB{w:World}{K k:Nat}{o:Option Nat}{L:List Int}(h:FQ w K o L k){s:Nat}(hs:s<272):(∃u,w.cell? ⟨K,s,none⟩=some u)/\w.frozen? ⟨K,s,none⟩=false:=by
 obtain⟨cs,hl,ha,_⟩:=h;exact⟨⟨cs[s],by rw[F6 ha,Bl]⟩,LL ha s⟩
theorem jC{w d:World}{K k cap base:Nat}{o:Option Nat}{a:Option Addr}{L:List Int}{b:List Bool}(h:FQ w K o L k)(hk:k<272)(hp:0<L[k]?.getD 0)(hb:Below w w d)(C:w<=base)(j:ES d base (.slice a b.length cap) b)(r:b=BI L k)(v:∀g,o=some g->g<w.heap.size):
 FQ (d.setCell ⟨K,k,none⟩ (.slice a b.length cap)) K o L (k+1):=by
 have h2:=Rs h hb;have B:K<w.heap.size:=by obtain⟨_,_,ha,_⟩:=h;exact Ng ha
 obtain⟨cs,hl,ha,hc⟩:=h2;subst r;have f:0<(BI L k).length:=by rw[LJ];omega
 obtain⟨x,_⟩:=Cr j;obtain⟨_,t⟩:=j;rcases t with⟨_,h0⟩|⟨g,m,cur,y,D,E,F,hm,hs,G⟩
 ·omega
 ·injection y with hv1 _ hv3;subst hv1 hv3;rcases Da x with⟨h0,_⟩|⟨_,A,off,m,z,u,p,q⟩
  ·rw[h0] at f;simp at f
  ·injection z with e1 _ e3;injection e1 with e1;injection e1 with e1 e2 _;subst e1 e2 e3;refine⟨cs.set k (.slice (some ⟨g,0,none⟩) (BI L k).length cap),by rw[Di];exact hl,LM ha k _,λs hs hp=>?_⟩;by_cases e:s=k
   ·subst e;refine⟨g,cap,by rw[K1 (by omega)],u,by omega,by simpa[World.setCell] using p,λe=>?_,λi c=>?_⟩
    ·have:=v g e;omega
    ·rw[GE _ (by omega)];have:=q i c;rw[B2] at this;exact this
   ·obtain⟨n,l,h1,h2,h3,h4,h5,h6⟩:=hc s (by omega) hp;refine⟨n,l,by rw[N6 (by omega)];exact h1,h2,h3,by simpa[World.setCell] using h4,h5,λi c=>?_⟩;rw[GE _ (by omega)];exact h6 i c
theorem jD{w:World}{K:Nat}{o:Option Nat}{L:List Int}(h:FQ w K o L 272){s:Nat}(hs:s<272)(hp:0<L[s]?.getD 0):∃v,w.cell? ⟨K,s,none⟩=some v/\Gy w v (BI L s):=by
 obtain⟨cs,hl,ha,hc⟩:=h;obtain⟨g,cap,h1,h2,h3,h4,h5,h6⟩:=hc s hs hp;exact⟨_,by rw[F6 ha,h1],Lv h2 h4 (λi a=>by rw[B2];exact h6 i a)⟩
def OK(l:List An)(b:List Bool):Prop:=(Es l=true->∃L,Ea (CW l) L/\b=Ff L l)/\(Es l=false->b=[])
def WI(l:List An)(w:World)(e:Ending)(w':World):Prop:=
 ∃(a:Option Addr) (cap:Nat) (b:List Bool),e= .returned (.tuple #[.slice a b.length cap, .bool (Es l)])/\Hid (OK l b)/\Gy w' (.slice a b.length cap) b/\Below w w w'
theorem WJ{l:List An}{w w':World}(h:Es l=false)(hb:Below w w w'):WI l w (.returned (.tuple #[.slice none 0 0, .bool false])) w':=
 ⟨none,0,[],by rw[h];rfl,⟨λa=>absurd a (by rw[h];decide),λ_=>rfl⟩,Cq λ_=>rfl,hb⟩
theorem Rt{l:List An}:Es l=true↔l.length<=1000/\∀t∈l,AJ t=true:=by simp[Es]
theorem WK{l:List An}(h:1000<l.length\/∃t∈l,AJ t=false):Es l=false:=by
 cases e:Es l with
 |false=>rfl
 |true=>
  obtain⟨h1,h2⟩:=Rt.1 e;rcases h with h|⟨t,a,h⟩
  ·omega
  ·rw[h2 t a] at h;cases h
theorem jE{l:List An}(h:l.length<=1000):GP (CW l)=true:=
 OI.2 ⟨by rw[GD];omega,λx a=>by have:=Nx l x a;omega⟩
theorem jF{L:List Int}(a:AI L=true)(t:An):(Dw L t).length<=23:=by
 have hb:(BI L (AC t).toNat).length<=15:=by
  rw[LJ];by_cases h:(AC t).toNat<L.length
  ·rw[Bl h,D0];have:=(D7 a).2.1 _ (BA h);omega
  ·rw[E9 (by omega)];simp
 unfold Dw;rw[A9];split
 ·rw[Ci];omega
 ·simp;omega
theorem WL{L:List Int}(a:AI L=true)(l:List An):(l.flatMap (Dw L)).length<=23*l.length:=by
 induction l with
 |nil=>simp
 |cons t l b=>
  have:=jF a t;rw[G8,A9,BV];omega
theorem jG{l:List An}{k:Nat}(hk:k<l.length){s:Nat}(hs:s<272)(h:AC l[k]=s):CW (l.take (k+1))=(CW (l.take k)).set s ((((l.take k).filter λt=>AC t==(s:Int)).length:Int)+1):=by
 rw[B1 hk];exact bn _ _ hs h
theorem jH{w a:World}{b d n:Int}(hb:Below (w.alloc (.cells #[b, d, n] 145)).heap.size (w.alloc (.cells #[b, d, n] 145)) a):
 a.cell? ⟨w,0,none⟩=some (.int .i64 b)/\a.cell? ⟨w,1,none⟩=some (.int .i64 d)/\a.cell? ⟨w,2,none⟩=some (.int .i64 n)/\w<a.heap.size:=by
 refine⟨?_,?_,?_,by have:=hb.size;simp at this;omega⟩
 ·rw[hb.cell (p:=⟨w,0,none⟩) (by simp),G7];rfl
 ·rw[hb.cell (p:=⟨w,1,none⟩) (by simp),G7];rfl
 ·rw[hb.cell (p:=⟨w,2,none⟩) (by simp),G7];rfl
theorem jI{n:Nat}{w a b:World}{o:Obj}(h:Below n w a)(h2:Below (a.alloc o).heap.size (a.alloc o) b)(c:n<=a.heap.size:=by omega):Below n w b:=
 (h.alloc c o).trans (h2.mono (by simp;omega))
theorem jJ{w:World}{g n cap:Nat}{l:List Int}(h:Ki w (.slice (some ⟨g,0,none⟩) n cap) l){k:Nat}(hk:k<l.length):w.cell? ⟨g,k,none⟩=some (.int .i64 l[k]):=by
 rcases Da h with⟨h0,_⟩|⟨_,c,off,d,b,_,_,a⟩
 ·rw[h0] at hk;simp at hk
 ·injection b with e1 _ _;injection e1 with e1;injection e1 with e1 e2 _;subst e1 e2;have:=a k hk;rw[B2] at this;exact this
theorem OL{w w':World}{row:Option Nat}{g i:Nat}(a:w.grownBy w' row)(b:g<w.heap.size)(c:some g≠row):w'.cell? ⟨g,i,none⟩=w.cell? ⟨g,i,none⟩:=
 Q3 (w:=w) (a.block g b c)
end Go.Proofs.YtmajkjjjfodhlaaGreatDoor
