/- Part Mbb. No condition of its own. -/
import Derived.Test.YtmajkjjjfodhlaaGreatDoorMba
namespace Go.Proofs.YtmajkjjjfodhlaaGreatDoor
open Go.RowKit Tryz Go.Shelf
set_option linter.all false
set_option maxRecDepth 100000
set_option maxHeartbeats 8000000
abbrev MV:=Int×Int×List MB
def Fc(n₀:Nat)(c:World)(v:Value)(a:List MV):Prop:=
 ∃b:List IE,b.length=a.length/\c.ownsRow n₀ 84 3 v a.length (Af Ej b)/\
  ∀j (d:j<b.length) (hk:j<a.length),b[j].1=a[j].1/\b[j].2.1=a[j].2.1/\c.ownsRow n₀ 106 2 (sv b[j].2.2) a[j].2.2.length (Af BR a[j].2.2)
theorem XS(n₀:Nat)(a:World):Fc n₀ a (.slice none 0 0) []:=⟨[],rfl,C2 _ _ _ _,λj b=>by simp at b⟩
theorem Kt{n₀:Nat}{a c:World}{v:Value}{d:List MV}(h:Fc n₀ a v d)(hb:Below a a c):Fc n₀ c v d:=by
 obtain⟨e,h1,h2,h3⟩:=h;exact⟨e,h1,Ag h2 hb,λj b hk=>⟨(h3 j b hk).1,(h3 j b hk).2.1,Ag (h3 j b hk).2.2 hb⟩⟩
theorem XT{n₀:Nat}{d:World}{v:Value}{c:List MV}(h:Fc n₀ d v c):
 ∃a:List IE,d.ownsRow n₀ 84 3 v c.length (Af Ej a)/\∀(b:World) (e:Value) (x:IE) (m:MV),Ac d b (λk=>some k=v.ownBlock)->b.ownsRow n₀ 84 3 e (c.length+1) (Af Ej a++Ej x)->x.1=m.1->x.2.1=m.2.1->
  b.ownsRow n₀ 106 2 (sv x.2.2) m.2.2.length (Af BR m.2.2)->Fc n₀ b e (c++[m]):=by
 obtain⟨a,h1,h2,h3⟩:=h;refine⟨a,h2,λb e x m p s n o t=>⟨a++[x],by simp[h1],by rw[JA,A9];simpa using s,λj f hk=>?_⟩⟩;rcases BZ j a.length with h|h
 ·have i:j<c.length:=by omega
  rw[K2 h,K2 i];obtain⟨u,w,l⟩:=h3 j h i;exact⟨u,w,p.owns l λg q hr=>Cn l h2 (by decide) g q hr⟩
 ·have r:j=a.length:=by rw[A9] at f;simp at f;omega
  subst r;rw[K3 (A1 _),K3 (by omega)];simp only[Hr,H5,h1];exact⟨n,o,t⟩
def Ku:ByteArray:=⟨(Lib.repeatL [0] 256).toArray⟩
def Ek(a:List (Int×Int)):List MB:=a.map λp=>(p.1,Ku)
def Do(vs:List Vl):List MV:=vs.map λv=>(v.1,v.2.1,Ek (v.2.2))
theorem RU(a:List (Int×Int)):(Ek a).length=a.length:=by simp[Ek]
theorem RW:(prog.info? 84).map (λi=>(i.zero,i.size,i.bytes))=some (some (.agg #[.int .i64 0, .int .i64 0, .slice none 0 0]),3,40):=by kernel_rfl
theorem RY:(prog.info? 106).map (λi=>(i.zero,i.size,i.bytes))=some (some (.agg #[.int .i64 0, .string ⟨#[]⟩]),2,24):=by kernel_rfl
theorem XU(w:World)(a b c:Value)(T:TypeId):∀j y,([a,b,c]:List Value)[j]?=some y->(w.alloc (.cells #[a,b,c] T)).cell? ((⟨w,0,none⟩:Addr).add j)=some y:=by
 intro j y d;rw[Bo,B2,G7];simpa using d
theorem mj(a2 a1 a3 av a4:Value)(p:Pl)(w:World)(hp:AH w a2 a1 a3 av a4 p)(F:D5 p.vols):
 Calls prog 94 #[AO a2 a1 a3 av a4 p] w λe w'=>∃v,e= .returned v/\Fc w.heap.size w' v (Do p.vols)/\Below w w w':=by
 obtain⟨i0,c9,cj,ck,cl⟩:=BW RW;obtain⟨i1,ca,cm,co,cp⟩:=BW RY;obtain⟨d,mt,gen,area,vols,tabs⟩:=p;obtain⟨kept,cache,fuse,keep,dead⟩:=d;have ar:CU w av vols:=hp.vols;have bX:=A0 ar;have bP:Hid (D5 vols):=F;have hl:vols.length<=64:=F.len;obtain⟨a0,c0,rfl⟩:=Fy ar;have ap:=λa6=>Tryz.strings_Repeat ⟨#[0]⟩ 256 a6 (by omega) (by simp[ByteArray.size]);have b8:(⟨(Lib.repeatL (⟨#[0]⟩:ByteArray).data.toList 256).toArray⟩:ByteArray)=Ku:=rfl;rw[b8] at ap;generalize b9:Ku=S at*;have c2:=A0 b9;clear hp ar F b9 b8;go_enter func94,ntmps94;go_wp2_with fail;refine(ap _).mono ?_;rintro e cS ⟨rfl,af⟩;have aV:=(Aa.new w [a2,a1, fuse,a3, .bool dead, mt, gen, area, .slice a0 vols.length c0,a4] 31).below af;have aL:=A0 (((A2 w.heap.size w).alloc (A1 _) (.cells #[a2,a1, fuse,a3, .bool dead, mt, gen, area, .slice a0 vols.length c0,a4] 31)).trans (af.mono (by simp)));obtain⟨_,_,_,_,_,_,_,_,c6,_⟩:=aV.ten;clear aV af ap;go_wp2_with fail;clear c6;go_loopw [4,14] (λcw G wr=>∃(k n:Nat) (a:Option Addr) (c:Nat),G= .int .i64 (k:Int)/\cw= .slice a n c/\k<=vols.length/\Hid (n=k)/\Fc w.heap.size wr (.slice a n c) (Do (vols.take k))/\Below w w wr) (λ_ G _=>vols.length-(intOf G).toNat)
 case atStart=>exact⟨0,0,none,0,rfl,rfl,A7 _,rfl,XS _ _,aL⟩
 case round=>
  clear aL;generalize wr=f at*;obtain⟨k,n,a,c,rfl,rfl,hk,a8,P,hb⟩:=hrel;obtain⟨aa,aK⟩:=Hx2 P hb;have cg:=hb.size;by_cases al:k<vols.length
  ·obtain⟨b,off,⟨⟨bt,bp,bb⟩,⟨bu,bq,bc⟩,⟨bw,bs,bl⟩⟩,N,cx,L,U,aP,aT,aU,b3⟩:=GX (EJ bX hb) al;subst N;have F:=bP.ok vols[k] (BA al);have bV:Hid (Do (vols.take (k+1))=Do (vols.take k)++[(vols[k].1,vols[k].2.1,Ek (vols[k].2.2))]):=by
    unfold Hid Do;rw[B1 al,D1];rfl
   have ao:=F.len;have au:=λ(a6:World) (ci:Below f f a6)=>KE b3 0 vols[k].2.1 (JF F (E4 _) (E4 _)) a6 ci;generalize vols[k]=y at*;obtain⟨l,m,h⟩:=y;dsimp only at L U au ao;dsimp only[sv] at aP aT aU;have c7:(k:Int)<(vols.length:Int):=by omega
   have g1:(0:Int)<=(k:Int):=by omega
   have HWalk:=A0 au;clear hb F b3 au P;go_wp2_with fail;have N:=(A2 f.heap.size f).alloc (A1 _) (.cells #[l, m, .slice bt bp bb, .slice bu bq bc, .slice bw bs bl] 78);have O:=N.alloc N.size (.cells #[l, m, .slice none 0 0] 84);have z:=Aa.new (f.alloc (.cells #[l, m, .slice bt bp bb, .slice bu bq bc, .slice bw bs bl] 78)) [l, m, .slice none 0 0] 84;simp only[Bx] at z;refine(HWalk _ O).mono ?_;rintro e cT ⟨c3,c4,rfl,s,ag⟩;obtain⟨aM,H,A⟩:=Hx3 (O.trans (ag.mono O.size)) (z.below ag) (Hm s O.size);have cK:=ao;clear N O z ag s HWalk L U aP aT aU ao;generalize aX:h.length=C at*;have a9:=A0 aX;clear aX;go_wp2_with fail;go_loopw [29] (λG a5=>∃(j:Nat) (t:Option Addr) (x:Nat),G= .int .i64 (j:Int)/\j<=C/\Aa a5 (f+1) [l, m, .slice t j x] 84/\a5.ownsRow (f+2) 106 2 (.slice t j x) j (Af BR (Ek (h.take j)))/\
    a5.ownsRow f.heap.size 113 2 (.slice c3 C c4) C (Af Cz h)/\Below f f a5) (λG _=>C-(intOf G).toNat)
   case atStart=>
    exact⟨0,none,0,rfl,A7 _,H,C2 _ _ _ _,A,aM⟩
   case round=>
    clear H A aM;obtain⟨j,t,x,rfl,cy,z,Q,s,V⟩:=hrel;obtain⟨I,A,T,H⟩:=Hx4 Q s V z;have c8:=V.size;have cc:=z.lt;obtain⟨f0,f1,f2,_,_,_⟩:=z.three;by_cases cb:j<C
    ·have X:j<h.length:=by rw[a9.out];exact cb
     obtain⟨q,rfl,cC⟩:=EM s (by omega);have cF:=AM s q rfl;have b0:=DB DL h j X 0 (by omega);have b1:=DB DL h j X 1 (by omega);have ad:Ek (h.take (j+1))=Ek (h.take j)++[(h[j].1,S)]:=by
      unfold Ek;rw[B1 X,D1,c2.out];rfl
     generalize h[j]=cq at*;obtain⟨pk,K⟩:=cq;dsimp only at ad;have L:=(BQ s (b0.trans (show _=some (Value.int .i64 pk) from rfl))).1;have U:=(BQ s (b1.trans (show _=some (Value.int .i64 K) from rfl))).1;simp only[Hb] at L;have bT:=A0 ad;have c7:(j:Int)<(C:Int):=by omega
     have g1:(0:Int)<=(j:Int):=by omega
     have J:=(A2 wr.heap.size wr).alloc (A1 _) (.cells #[pk, K] 113);have c5:=(J.cell (p:=⟨f+1,2,none⟩) cc).trans f2;have aF:=A0 ((I.alloc (.cells #[pk, K] 113)).alloc (.cells #[pk, .string S] 106));clear b0 b1 ad Q s V X f0 f1 z J;have M:=((A2 wr.heap.size wr).alloc (A1 _) (.cells #[pk, K] 113)).alloc (by simp) (.cells #[pk, .string S] 106);obtain⟨ay,aC,ax⟩:=Hx3 (H.below M) (Ag A M) (T.trans (M.mono c8));have cL:=M.size;have cM:((wr.alloc (.cells #[pk, K] 113)).alloc (.cells #[pk, .string S] 106)).heap.size=wr.heap.size+2:=by simp
     clear M;go_wp2_with (at_builtin;refine F0 _ rfl _ _ 82 rfl (f+2) 106 i1 (.agg #[.int .i64 0, .string ⟨#[]⟩]) 2 24 underlying82 ca cm co cp rfl (by decide) (.slice t j x) j _ rfl aF ⟨wr+1,0,none⟩ 1 1 (BR (pk,S)) rfl rfl (λi u ch=>by rw[Bo,B2,show wr.heap.size+1=(wr.alloc (.cells #[pk, K] 113)).heap.size from(Bx _ _).symm,G7];simpa using ch) (IC.one _) (by simp[maxLen];omega) (by omega) (by simp;omega) ?_;intro cv R E D an ak;obtain⟨o,r,rfl,_,_⟩:=Aw E;have Y:=ay.grown D (λe=>by have:=Ah I _ e.symm;omega);obtain⟨cr,t1,t2,cs,ct,cu⟩:=Y.three)
     have b6:R.ownsRow (f+2) 106 2 (.slice o (j+1) r) (j+1) (Af BR (Ek (h.take (j+1)))):=by
      rw[bT.out,JA];exact E
     have ac:=Mq aC D (λg ai=>Cn A I (by decide) g ai);have J:=ax.grown D (by omega) (λb hb=>by have:=Ah I b hb;omega);have aj:=Ad R (f+1) 2 (.slice o (j+1) r);obtain⟨bx,bK⟩:=Hx2 (show Aa (R.setCell ⟨f+1,2,none⟩ (.slice o (j+1) r)) (f+1) [l, m, .slice o (j+1) r] 84 from Y.set 2 (.slice o (j+1) r)) (Ak b6 (show f.heap.size+1<f.heap.size+2 by omega) 2 (.slice o (j+1) r));have bL:=A0 (aj.owns ac (λb hb e=>by
      subst e;exact Gh ac Y (by decide) hb.symm))
     have bM:=A0 (J.trans (aj.below (B:=f.heap.size) J.size (λb hb=>by omega)));clear E D an ak Y cr t1 t2 cs ct cu b6 ac J aj L U f2 c5 aF ay aC ax I A H;go_wp2_with fail;exact⟨⟨j+1,o,r,rfl,by omega,bx,bK,bL,bM⟩,by simp[intOf];omega⟩
    ·obtain rfl:j=C:=by omega
     have hd:decide ((j:Int)<(j:Int))=false:=A6 (by omega);have b4:=Kt aa T;have b2:(Do (vols.take k)).length=n:=by rw[a8.out];unfold Do;rw[B4,B5];omega
     obtain⟨cP,Z,aq⟩:=XT b4;rw[b2] at Z aq;have cz:n<=64:=by have:=a8.out;omega
     obtain⟨ab,HStep,b5⟩:=Hx3 Z aq (Z.alloc (.cells #[l, m, .slice t j x] 84));have b7:h.take j=h:=by rw[<-a9.out];exact E2 (A1 _)
     have a7:Hid (wr.ownsRow w.heap.size 106 2 (.slice t j x) (Ek (h)).length (Af BR (Ek (h)))):=by
      unfold Hid;rw[RU,a9.out];rw[b7] at Q;exact Hm Q (by omega)
     clear b4 Z aq Q s V z b7 aa b2;go_wp2_with (at_builtin;refine F0 _ rfl _ _ 56 rfl w.heap.size 84 i0 (.agg #[.int .i64 0, .int .i64 0, .slice none 0 0]) 3 40 underlying56 c9 cj ck cl rfl (by decide) (.slice a n c) n _ rfl b5 ⟨wr,0,none⟩ 1 1 (Ej (l,m,(t,j,x))) rfl rfl (XU _ _ _ _ _) (Gl.one _) (by simp[maxLen];omega) (by omega) (by simp;omega) ?_)
     intro cv R E D an ak;have W:=(AZ wr (.cells #[l, m, .slice t j x] 84) (λk=>some k=(Value.slice a n c).ownBlock)).trans (Gs D);obtain⟨o,r,rfl,_,_⟩:=Aw E;have ah:=HStep R (.slice o (n+1) r) (l,m,(t,j,x)) (l,m,Ek (h)) W E rfl rfl (W.owns a7 (λg ai hr=>Cn a7 ab (by decide) g ai hr));rw[<-bV.out] at ah;obtain⟨bN,c1⟩:=Hx2 ah ((aK.trans (T.mono cg)).trans (W.below (B:=w.heap.size) (by omega) (λb hb=>Ah ab b hb.symm)));have bO:Hid (n+1=k+1):=by have:=a8.out;unfold Hid;omega
     clear E D an ak W ah b5 ab HStep a7 T I A H f0 f1 f2;go_wp2_with fail;exact⟨⟨k+1,n+1,o,r,rfl,rfl,by omega,bO,bN,c1⟩,by simp[intOf];omega⟩
  ·obtain rfl:k=vols.length:=by omega
   have hd:decide ((vols.length:Int)<(vols.length:Int))=false:=A6 (by omega);rw[D4] at P;have bR:=A0 P;clear P hb aa;go_wp2_with fail;go_ret;exact⟨_,rfl,bR,aK⟩
def Gn(w:World)(v:Value)(b:List MV):Prop:=
 ∃a:List IE,Av w v 3 Ej a/\a.length=b.length/\∀j (c:j<a.length) (hk:j<b.length),a[j].1=b[j].1/\a[j].2.1=b[j].2.1/\Av w (sv a[j].2.2) 2 BR b[j].2.2
theorem Lj{n₀:Nat}{b:World}{v:Value}{c:List MV}(h:Fc n₀ b v c):Gn b v c:=by
 obtain⟨d,h1,h2,h3⟩:=h;exact⟨d,(CJ Gl h2).1,h1,λj a hk=>⟨(h3 j a hk).1,(h3 j a hk).2.1,(CJ IC (h3 j a hk).2.2).1⟩⟩
theorem Ie{w w':World}{v:Value}{b:List MV}(h:Gn w v b)(hb:Below w w w'):Gn w' v b:=by
 obtain⟨c,h1,h2,h3⟩:=h;exact⟨c,Aj h1 hb,h2,λj a hk=>⟨(h3 j a hk).1,(h3 j a hk).2.1,Aj (h3 j a hk).2.2 hb⟩⟩
theorem Lk{w:World}{v:Value}{b:List MV}(h:Gn w v b):∃a c,v= .slice a b.length c:=by
 obtain⟨d,h1,h2,_⟩:=h;obtain⟨a,c,rfl,_⟩:=h1;exact⟨a,c,by rw[h2]⟩
theorem MK{w:World}{a:Option Addr}{n cap:Nat}{c:List MV}(h:Gn w (.slice a n cap) c){k:Nat}(hk:k<c.length):
 ∃b off f g,a=some ⟨b,off,none⟩/\b<w.heap.size/\w.cell? ⟨b,off+k*3,none⟩=some (.int .i64 c[k].1)/\w.cell? ⟨b,off+k*3+1,none⟩=some (.int .i64 c[k].2.1)/\
  w.cell? ⟨b,off+k*3+2,none⟩=some (.slice f c[k].2.2.length g)/\Av w (.slice f c[k].2.2.length g) 2 BR c[k].2.2:=by
 obtain⟨m,⟨q,r,e,hl,s,hc⟩,h2,h3⟩:=h;injection e with e1 e2 e3;subst e1 e2 e3;have d:k<m.length:=by omega
 rcases hc with hc|⟨b,off,rfl,hb,i⟩
 ·rw[hc] at d;simp at d
 ·obtain⟨o,p,j⟩:=h3 k d hk;have c0:=i k d 0 (by omega);have c1:=i k d 1 (by omega);have c2:=i k d 2 (by omega);obtain⟨f,g,l,_⟩:=id j;rw[l] at j;refine⟨b,off,f,g,rfl,hb,?_,?_,?_,j⟩
  ·rw[<-o];exact c0
  ·rw[<-p];exact c1
  ·rw[<-l];exact c2
def FW(a:List MV)(id:Int):Nat×Bool:=match a.findIdx? (λm=>m.1==id) with
 |some i=>(i,true)
 |none=>(0,false)
theorem RZ{a:List MV}{id:Int}{k:Nat}(hk:k<a.length)(h:a[k].1=id)(c:∀j (b:j<a.length),j<k->a[j].1≠id):FW a id=(k,true):=by
 unfold FW;have:a.findIdx? (λm=>m.1==id)=some k:=by
  rw[List.findIdx?_eq_some_iff_getElem];exact⟨hk,by simpa using h,λj b=>by simpa using c j (by omega) b⟩
 rw[this]
theorem ml{a:List MV}{id:Int}(c:∀j (b:j<a.length),a[j].1≠id):FW a id=(0,false):=by
 unfold FW;have:a.findIdx? (λm=>m.1==id)=none:=by
  rw[List.findIdx?_eq_none_iff];intro x d;obtain⟨j,b,rfl⟩:=HQ d;simpa using c j b
 rw[this]
theorem XV(v:Value)(d:List MV)(x:Int)(w:World)(p:Gn w v d)(hl:d.length<=1000000):
 Calls prog 181 #[v, x] w λe w'=>e= .returned (.tuple #[.int .i64 (FW d x).1, .bool (FW d x).2])/\Below w w w':=by
 obtain⟨a,c,rfl⟩:=Lk p;have y:=A0 p;clear p;go_enter func181,ntmps181;go_wp2_with fail;go_loopw [10] (λr wr=>∃k:Nat,r= .int .i64 (k:Int)/\k<=d.length/\Hid (∀j (f:j<d.length),j<k->d[j].1≠x)/\Below w w wr) (λr _=>d.length-(intOf r).toNat)
 case atStart=>exact⟨0,rfl,A7 _,λj f h=>absurd h (by omega),A2 _ _⟩
 case round=>
  obtain⟨k,rfl,hk,m,hb⟩:=hrel;have i:=A0 hb;have t:=hb.size;by_cases s:k<d.length
  ·obtain⟨b,off,z,A,rfl,F,B,C,D,_⟩:=MK (Ie y hb) s;have l:=A0 (λh=>RZ s h m);have n:Hid (d[k].1≠x->∀j (f:j<d.length),j<k+1->d[j].1≠x):=λh j f G=>by
    rcases BZ j k with h1|h1
    ·exact m j f h1
    ·obtain rfl:j=k:=by omega
     exact h
   generalize d[k].2.2.length=H at*;generalize d[k].1=g at*;generalize d[k].2.1=I at*;have E:(k:Int)<(d.length:Int):=by omega
   have g1:(0:Int)<=(k:Int):=by omega
   clear hb;by_cases hy:g=x
   ·subst hy;have hf:=l rfl;have o:=A0 hf;have q:(g==g)=true:=by simp
    clear hf l n;go_wp2_with fail;refine A5 (C3 rfl _ _ _) rfl ?_;rw[o.out];exact⟨rfl,i.alloc t _⟩
   ·have q:(g==x)=false:=by simpa using hy
    have u:=A0 (n hy);clear l n hy;go_wp2_with fail;exact⟨⟨k+1,rfl,by omega,u,i.alloc t _⟩,by simp[intOf];omega⟩
  ·obtain rfl:k=d.length:=by omega
   have hd:decide ((d.length:Int)<(d.length:Int))=false:=A6 (by omega);have o:=A0 (ml λj f=>m j f f);clear hb;go_wp2_with fail;refine A5 (C3 rfl _ _ _) rfl ?_;rw[o.out];exact⟨rfl,i⟩
def Js(base:Nat)(w0 d:World)(g:Option Addr)(c:Nat)(a:List MV)(i:Nat):Prop:=
 ∃b:List IE,b.length=a.length/\d.ownsRow base 84 3 (.slice g a.length c) a.length (Af Ej b)/\
  ∀j (e:j<b.length) (hk:j<a.length),(b[j].1=a[j].1/\b[j].2.1=a[j].2.1/\b[j].2.2.2.1=a[j].2.2.length)/\(j<i->d.ownsRow base 106 2 (sv b[j].2.2) a[j].2.2.length (Af BR a[j].2.2))/\(i<=j->Av w0 (sv b[j].2.2) 2 BR a[j].2.2)
theorem XW{base:Nat}{w0 e f:World}{g:Option Addr}{c i:Nat}{l:List MV}{R:Nat->Prop}(h:Js base w0 e g c l i)(k:Ac e f R)(hr:∀b,R b->b<base):Js base w0 f g c l i:=by
 obtain⟨m,h1,h2,h3⟩:=h;exact⟨m,h1,k.owns h2 (λb hb d=>by have:=Ah h2 b hb;have:=hr b d;omega),λj a hk=>⟨(h3 j a hk).1,λh=>k.owns ((h3 j a hk).2.1 h) (λb hb d=>by have:=Ah ((h3 j a hk).2.1 h) b hb;have:=hr b d;omega),(h3 j a hk).2.2⟩⟩
theorem mo{base:Nat}{w0 d:World}{g:Option Addr}{c:Nat}{a:List MV}(h:Js base w0 d g c a a.length):Fc base d (.slice g a.length c) a:=by
 obtain⟨e,h1,h2,h3⟩:=h;exact⟨e,h1,h2,λj b hk=>⟨(h3 j b hk).1.1,(h3 j b hk).1.2.1,(h3 j b hk).2.1 hk⟩⟩
theorem XX{base:Nat}{w0 e:World}{g:Option Addr}{c i:Nat}{d:List MV}(h:Js base w0 e g c d i)(n:i<d.length):
 ∃(b:Nat) (a:Option Addr) (f:Nat),g=some ⟨b,0,none⟩/\base<=b/\b<e.heap.size/\e.cell? ⟨b,i*3+2,none⟩=some (.slice a d[i].2.2.length f)/\(∀j,e.frozen? ⟨b,j,none⟩=false)/\Av w0 (.slice a d[i].2.2.length f) 2 BR d[i].2.2:=by
 obtain⟨m,h1,h2,h3⟩:=h;obtain⟨b,rfl,hb⟩:=EM h2 (by omega);have k:i<m.length:=by omega
 have hc:=DB Gl m i k 2 (by omega);have hl:=(h3 i k n).1.2.2;have p:=(h3 i k n).2.2 (A1 _);have o:=(BQ h2 hc).1;generalize m[i]=s at*;obtain⟨q,r,a,l,f⟩:=s;dsimp only at hl;subst hl;exact⟨b,a,f,rfl,hb,AM h2 b rfl,o,λj=>On h2 rfl j,p⟩
theorem mp{base:Nat}{w0 l m:World}{b c i:Nat}{d:List MV}(h:Js base w0 l (some ⟨b,0,none⟩) c d i)(w:i<d.length)(u:Below l l m)(a:Option Addr)(f:Nat)(hs:m.ownsRow l.heap.size 106 2 (.slice a d[i].2.2.length f) d[i].2.2.length (Af BR d[i].2.2)):
 Js base w0 (m.setCell ⟨b,i*3+2,none⟩ (.slice a d[i].2.2.length f)) (some ⟨b,0,none⟩) c d (i+1):=by
 have r:=XW h (Ai u) (λ_ h=>h.elim);have v:base<=b/\b<l.heap.size:=by
  obtain⟨k,_,h2,_⟩:=h;exact⟨Ah h2 b rfl,AM h2 b rfl⟩
 obtain⟨k,h1,h2,h3⟩:=r;have s:i<k.length:=by omega
 have o:=Ad m b (i*3+2) (.slice a d[i].2.2.length f);have q:=Lc h2 (i*3+2) (.slice a d[i].2.2.length f);have t:=Ld Gl k i s 2 (.slice a d[i].2.2.length f) (k[i].1,k[i].2.1,(a,d[i].2.2.length,f)) (by omega) rfl;rw[t] at q;refine⟨_,by rw[Di,h1],q,λj p hk=>?_⟩;have g:j<k.length:=by rw[Di] at p;exact p
 rw[HC];by_cases e:i=j
 ·subst e;rw[A4 rfl];exact⟨⟨(h3 i g hk).1.1,(h3 i g hk).1.2.1,rfl⟩,λ_=>o.owns (Hm hs (by omega)) (λx n hk=>by subst hk;exact Cn hs h2 (by decide) _ n rfl),λh=>absurd h (by omega)⟩
 ·rw[A3 e];exact⟨(h3 j g hk).1,λh=>o.owns ((h3 j g hk).2.1 (by omega)) (λx n hk=>by subst hk;exact Cn ((h3 j g hk).2.1 (by omega)) h2 (by decide) _ n rfl),λh=>(h3 j g hk).2.2 (by omega)⟩
theorem mq(v:Value)(d:List MV)(w:World)(U:Gn w v d)(hl:d.length<=1000)(hb:∀m∈d,m.2.2.length<=1000000):
 Calls prog 180 #[v] w λe w'=>∃V,e= .returned V/\Fc w.heap.size w' V d/\Below w w w':=by
 obtain⟨a,c,rfl⟩:=Lk U;obtain⟨t,R,A,q⟩:=U;obtain⟨a2,Z⟩:=Hx2 A hb;have O:=lA (.slice a d.length c) t w R (by omega);have a3:Hid (∀(D:World) (g:Option Addr) (i:Nat),D.ownsRow w.heap.size 84 3 (.slice g t.length i) t.length (Af Ej t)->Js w.heap.size w D g i d 0):=by
  intro D g i S;rw[A] at S;exact⟨t,A,S,λj y hk=>⟨⟨(q j y hk).1,(q j y hk).2.1,by
   obtain⟨_,_,e,_⟩:=(q j y hk).2.2;injection e⟩,λh=>absurd h (by omega),λ_=>(q j y hk).2.2⟩⟩
 clear R q A hb;go_enter func180,ntmps180;go_wp2_with fail;refine O.mono ?_;rintro e af ⟨a1,c1,rfl,s,M⟩;obtain⟨f,H⟩:=Hx2 (a3 af a1 c1 s) M;rw[a2.out];clear s M O;go_wp2_with fail;go_loopw [9] (λG wr=>∃k:Nat,G= .int .i64 (k:Int)/\k<=d.length/\Js w.heap.size w wr a1 c1 d k/\Below w w wr) (λG _=>d.length-(intOf G).toNat)
 case atStart=>exact⟨0,rfl,A7 _,f,H⟩
 case round=>
  clear f H;obtain⟨k,rfl,hk,r,hb⟩:=hrel;obtain⟨f,u⟩:=Hx2 r hb;have ac:=hb.size;by_cases z:k<d.length
  ·obtain⟨g,a6,a7,a9,aa,ab,a8,x,T⟩:=XX r z;subst a9;have aj:=Z d[k] (BA z);obtain⟨a4,HStore,HRead⟩:=Hx3 T (λE (F:Below wr wr E) (a5:Option Addr) (i:Nat) hs=>mp f z F a5 i hs) (λE (F:Below wr wr E)=>XX (XW f (Ai F) (λ_ h=>h.elim)) z);have ai:(k:Int)<(d.length:Int):=by omega
   have g1:(0:Int)<=(k:Int):=by omega
   generalize d[k].2.2=l at*;have N:=λW (ad:Below w w W)=>Xx (.slice a6 l.length a7) l W (Aj a4 ad) (by omega);have I:=A0 N;generalize Q:l.length=n at*;have ag:=A0 Q;clear r hb T x ab Q N;go_wp2_with fail;refine(I wr u).mono ?_;rintro e C ⟨J,K,rfl,s,o⟩;have L:=HStore C o J K s;obtain⟨ah,_,_,p,_,_,h0,x,_⟩:=HRead C o;injection p with p;injection p with p;subst p;have ak:=x (k*3+2);have P:=Ad C g (k*3+2) (.slice J n K);obtain⟨X,Y⟩:=Hx2 L ((u.trans (o.mono ac)).trans (P.below (B:=w.heap.size) (by have:=o.size;omega) (λb hb=>by rw[hb];exact aa)));clear L o s x P HStore HRead f u I a8;go_wp2_with fail;exact⟨⟨k+1,rfl,by omega,X,Y⟩,by simp[intOf];omega⟩
  ·obtain rfl:k=d.length:=by omega
   have hd:decide ((d.length:Int)<(d.length:Int))=false:=A6 (by omega);have a0:=A0 (mo r);clear r hb f;go_wp2_with fail;go_ret;exact⟨_,rfl,a0,u⟩
structure O9(ms:List MV):Prop where
 len:ms.length≤64
 id:∀m∈ms,1≤m.1∧m.1≤1000
 size:∀m∈ms,0≤m.2.1∧m.2.1≤100000
 rise:ms.Pairwise fun a b=>a.1<b.1
 blk:∀m∈ms,∀b∈m.2.2,0≤b.1∧b.1<m.2.1∧b.2.size=256
 up:∀m∈ms,m.2.2.Pairwise fun a b=>a.1<b.1
 few:∀m∈ms,m.2.2.length≤1000000
theorem R1{w:World}{a:Option Addr}{n cap:Nat}{bs:List MB}(h:Av w (.slice a n cap) 2 BR bs){k:Nat}(hk:k<bs.length):
 ∃b off,a=some ⟨b,off,none⟩/\b<w.heap.size/\w.cell? ⟨b,off+k*2,none⟩=some (.int .i64 bs[k].1)/\w.cell? ⟨b,off+k*2+1,none⟩=some (.string bs[k].2):=by
 obtain⟨d,f,e,hl,g,hc⟩:=h;injection e with e1 e2 e3;subst e1 e2 e3;rcases hc with hc|⟨b,off,rfl,hb,c⟩
 ·rw[hc] at hk;simp at hk
 ·exact⟨b,off,rfl,hb,c k hk 0 (by omega),c k hk 1 (by omega)⟩
theorem mr(v:Value)(a:List MV)(w:World)(P:Gn w v a)(O:O9 a):
 Calls prog 178 #[v] w λe w'=>e= .returned (.bool true)/\Below w w w':=by
 obtain⟨a0,c0,rfl⟩:=Lk P;obtain⟨T,o⟩:=Hx2 P O;have hl:=O.len;have b0:decide (64<(a.length:Int))=false:=A6 (by omega);have b1:decide (64<a.length)=false:=A6 (by omega);clear P O;go_enter func178,ntmps178;go_wp2_with fail;clear b0 b1;go_loopw [12] (λi wr=>∃k:Nat,i= .int .i64 (k:Int)/\k<=a.length/\Below w w wr) (λi _=>a.length-(intOf i).toNat)
 case atStart=>exact⟨0,rfl,A7 _,A2 _ _⟩
 case round=>
  generalize wr=d at*;obtain⟨k,rfl,hk,m⟩:=hrel;by_cases q:k<a.length
  ·obtain⟨b,off,s,p,rfl,au,B,C,X,J⟩:=MK (Ie T m) q;have a1:=o.id a[k] (BA q);have a6:=o.size a[k] (BA q);obtain⟨ac,af⟩:=Hx2 (o.blk a[k] (BA q)) (o.up a[k] (BA q));have f:∀N:0<k,∃x:Int,d.cell? ⟨b,off+(k-1)*3,none⟩=some (.int .i64 x)/\x<a[k].1:=λN=>by
    obtain⟨ah,ap,_,_,n,_,f0,_⟩:=MK (Ie T m) (show k-1<a.length by omega);injection n with n;injection n with hb1 hb2;subst hb1 hb2;exact⟨_,f0,Jx.1 o.rise _ _ _ _ (by omega)⟩
   have al:=o.few a[k] (BA q);have S:=A0 J;generalize a[k]=y at*;obtain⟨g,h,r⟩:=y;dsimp only at B C X f a1 a6 J al;obtain⟨ax,ay⟩:=a1;obtain⟨aC,aF⟩:=a6;have H:=A0 m;have ao:=m.size;generalize a5:r.length=c at*;have ad:=A0 a5;have d1:decide (g<1)=false:=A6 (by omega);have d2:decide (1000<g)=false:=A6 (by omega);have ai:decide (h<0)=false:=A6 (by omega);have d4:decide (100000<h)=false:=A6 (by omega);have Y:(k:Int)<(a.length:Int):=by omega
   have g1:(0:Int)<=(k:Int):=by omega
   clear m J a5;have Z:=((A2 d.heap.size d).alloc (A1 _) (.cells #[g, h, .slice s c p] 84)).drew;have U:=A0 Z;have I:Hid (Aa (d.alloc (.cells #[g, h, .slice s c p] 84)).drew d.heap.size [g, h, .slice s c p] 84):=(Aa.new d [g, h, .slice s c p] 84).drew;clear Z;rcases S1 k with N|a4;focus
    have b0:decide ((0:Int)<(k:Int))=false:=A6 (by omega);have b1:decide (0<k)=false:=A6 (by omega);have b2:¬0<k:=by omega
    have V:¬(0:Int)<(k:Int):=by omega
    clear f N;go_wp2_with fail
    go_region
    go_wp2_with fail;clear b0 b1 b2 V
   rotate_left;focus
    obtain⟨x,E,a8⟩:=f a4;obtain⟨j,u⟩:∃j:Nat,(k:Int) -1=(j:Int)/\k-1=j/\(j:Int)<(a.length:Int):=⟨k-1,by omega,rfl,by omega⟩;have b0:decide ((0:Int)<(k:Int))=true:=Hc (by omega);rw[u.2.1] at E;have a2:=u.1;have a3:=u.2.2;have a7:decide (g<=x)=false:=A6 (by omega);clear f;go_wp2_with fail
    go_region
    go_wp2_with fail;clear E a8 u b0 a2 a3 a7 a4
   rotate_left;all_goals
    clear B C X d1 d2 ai d4 Y g1;go_loopw [51] (λi wr=>∃j:Nat,i= .int .i64 (j:Int)/\j<=c/\Aa wr d.heap.size [g, h, .slice s c p] 84/\Below d d wr) (λi _=>c-(intOf i).toNat)
    case atStart=>exact⟨0,rfl,A7 _,I,U⟩
    case round=>
     clear I U;obtain⟨j,rfl,u,t,l⟩:=hrel;obtain⟨I,ar⟩:=Hx2 t l;have aj:=l.size;by_cases an:j<c
     ·have M:j<r.length:=by rw[ad.out];exact an
      obtain⟨W,a9,rfl,av,B,C⟩:=R1 (Aj S l) M;obtain⟨aa,ab,G⟩:=ac r[j] (BA M);have f:∀L:0<j,∃x:Int,wr.cell? ⟨W,a9+(j-1)*2,none⟩=some (.int .i64 x)/\x<r[j].1:=λL=>by
       obtain⟨ah,ap,n,_,f0,_⟩:=R1 (Aj S l) (show j-1<r.length by omega);injection n with n;injection n with hb1 hb2;subst hb1 hb2;exact⟨_,f0,Jx.1 af _ _ _ _ (by omega)⟩
      generalize r[j]=aq at*;obtain⟨z,A⟩:=aq;dsimp only at aa ab G B C f;have aK:decide (z<0)=false:=A6 (by omega);have aL:decide (h<=z)=false:=A6 (by omega);have aM:((A.size:Int)!=256)=false:=by rw[G];rfl
      have aP:(A.size !=256)=false:=by rw[G];rfl
      have aT:((A.size:Int)==256)=true:=by rw[G];rfl
      have D:=(A2 wr.heap.size wr).alloc (A1 _) (.cells #[z, .string A] 106);obtain⟨f0,f1,f2,_,_,_⟩:=(t.below D).three;have Y:(j:Int)<(c:Int):=by omega
      have g1:(0:Int)<=(j:Int):=by omega
      obtain⟨Q,R⟩:=Hx2 (show Aa (wr.alloc (.cells #[z, .string A] 106)).drew d.heap.size [g, h, .slice (some ⟨W,a9,none⟩) c p] 84 from(t.below D).drew) ((l.trans (D.mono aj)).drew);clear l t D aa ab M;rcases S1 j with L|ak
      ·have b0:decide ((0:Int)<(j:Int))=false:=A6 (by omega);have b1:decide (0<j)=false:=A6 (by omega);have b2:¬0<j:=by omega
       have V:¬(0:Int)<(j:Int):=by omega
       clear f L;go_wp2_with fail
       go_region
       go_wp2_with fail;exact⟨⟨j+1,rfl,by omega,Q,R⟩,by simp[intOf];omega⟩
      ·obtain⟨x,E,a8⟩:=f ak;obtain⟨F,K⟩:∃F:Nat,(j:Int) -1=(F:Int)/\j-1=F/\(F:Int)<(c:Int):=⟨j-1,by omega,rfl,by omega⟩;have b0:decide ((0:Int)<(j:Int))=true:=Hc (by omega);rw[K.2.1] at E;have a2:=K.1;have a3:=K.2.2;have a7:decide (z<=x)=false:=A6 (by omega);clear f;go_wp2_with fail
       go_region
       go_wp2_with fail;exact⟨⟨j+1,rfl,by omega,Q,R⟩,by simp[intOf];omega⟩
     ·obtain rfl:j=c:=by omega
      have hd:decide ((j:Int)<(j:Int))=false:=A6 (by omega);have ag:=A0 (H.trans (l.mono ao));clear l t;go_wp2_with fail;exact⟨⟨k+1,rfl,by omega,ag⟩,by simp[intOf];omega⟩
  ·obtain rfl:k=a.length:=by omega
   have hd:decide ((a.length:Int)<(a.length:Int))=false:=A6 (by omega);have H:=A0 m;clear m;go_wp2_with fail;go_ret;exact⟨rfl,H⟩
def Ll(bs:List MB)(x:Int):ByteArray:=match bs.find? (λb=>b.1==x) with
 |some b=>b.2
 |none=>Ku
theorem mu{bs:List MB}{x:Int}{k:Nat}(hk:k<bs.length)(h:bs[k].1=x)(c:∀j (a:j<bs.length),j<k->bs[j].1≠x):Ll bs x=bs[k].2:=by
 unfold Ll;have:bs.find? (λb=>b.1==x)=some bs[k]:=by
  rw[WE];exact⟨by simpa using h,k,hk,rfl,λj a=>by simpa using c j (by omega) a⟩
 rw[this]
theorem mv{bs:List MB}{x:Int}(c:∀j (a:j<bs.length),bs[j].1≠x):Ll bs x=Ku:=by
 unfold Ll;have:bs.find? (λb=>b.1==x)=none:=by
  rw[HS];intro b hb;obtain⟨j,a,rfl⟩:=HQ hb;simpa using c j a
 rw[this]
theorem mw(v:Value)(bs:List MB)(x:Int)(w:World)(r:Av w v 2 BR bs)(hl:bs.length<=1000000):
 Calls prog 185 #[v, x] w λe w'=>e= .returned (.string (Ll bs x))/\Below w w w':=by
 obtain⟨a,c,rfl,_⟩:=id r;have D:=A0 r;have f:=λG=>Tryz.strings_Repeat ⟨#[0]⟩ 256 G (by omega) (by simp[ByteArray.size]);have A:(⟨(Lib.repeatL (⟨#[0]⟩:ByteArray).data.toList 256).toArray⟩:ByteArray)=Ku:=rfl;rw[A] at f;clear r A;go_enter func185,ntmps185;go_wp2_with fail;go_loopw [9] (λs wr=>∃k:Nat,s= .int .i64 (k:Int)/\k<=bs.length/\Hid (∀j (d:j<bs.length),j<k->bs[j].1≠x)/\Below w w wr) (λs _=>bs.length-(intOf s).toNat)
 case atStart=>exact⟨0,rfl,A7 _,λj d h=>absurd h (by omega),A2 _ _⟩
 case round=>
  obtain⟨k,rfl,hk,m,hb⟩:=hrel;have i:=A0 hb;have p:=hb.size;by_cases u:k<bs.length
  ·obtain⟨b,off,rfl,I,E,F⟩:=R1 (Aj D hb) u;have l:=A0 (λh=>mu u h m);have n:Hid (bs[k].1≠x->∀j (d:j<bs.length),j<k+1->bs[j].1≠x):=λh j d J=>by
    rcases BZ j k with h1|h1
    ·exact m j d h1
    ·obtain rfl:j=k:=by omega
     exact h
   generalize bs[k]=y at*;obtain⟨g,L⟩:=y;dsimp only at E F;have H:(k:Int)<(bs.length:Int):=by omega
   have g1:(0:Int)<=(k:Int):=by omega
   clear hb f;by_cases hy:g=x
   ·subst hy;have o:=A0 (l rfl);have q:(g==g)=true:=by simp
    clear l n;go_wp2_with fail;go_ret;rw[o.out];exact⟨rfl,i.alloc p _⟩
   ·have q:(g==x)=false:=by simpa using hy
    have C:=A0 (n hy);clear l n hy;go_wp2_with fail;exact⟨⟨k+1,rfl,by omega,C,i.alloc p _⟩,by simp[intOf];omega⟩
  ·obtain rfl:k=bs.length:=by omega
   have hd:decide ((bs.length:Int)<(bs.length:Int))=false:=A6 (by omega);have o:=A0 (mv λj d=>m j d d);have z:=f wr;generalize Ku=M at*;clear hb f;go_wp2_with fail;refine z.mono ?_;rintro e K ⟨rfl,t⟩;have B:=A0 (i.trans (t.mono p));clear z t;go_wp2_with fail;go_ret;rw[o.out];exact⟨rfl,B⟩
structure Rq where
 op:Int
 vol:Int
 tv:Int
 blk:Int
 n:Int
 text:ByteArray
abbrev Kv(x:Rq):List Value:=[x.op, x.vol, x.tv, x.blk, x.n, .string x.text]
abbrev Cy(x:Rq):Value:= .agg #[x.op, x.vol, x.tv, x.blk, x.n, .string x.text]
abbrev De(c:Int)(t:ByteArray)(n:Int):Value:= .agg #[c, .string t, n]
def If(a:List MV)(id:Int):Int:=match a.find? (λm=>m.1==id) with
 |some m=>m.2.1
 |none=> -1
theorem XY(a:List MV)(id:Int):(∃k,∃h:k<a.length,FW a id=(k,true)/\If a id=a[k].2.1/\a[k].1=id)\/(FW a id=(0,false)/\If a id= -1):=by
 unfold FW If;cases hf:a.findIdx? (λm=>m.1==id) with
 |none=>
  right;rw[List.findIdx?_eq_none_iff] at hf;have:a.find? (λm=>m.1==id)=none:=HS.2 λx c=>by rw[hf x c];decide
  rw[this];exact⟨rfl,rfl⟩
 |some k=>
  left;rw[List.findIdx?_eq_some_iff_getElem] at hf;obtain⟨hk,h1,h2⟩:=hf;have:a.find? (λm=>m.1==id)=some a[k]:=WE.2 ⟨h1,k,hk,rfl,λj b=>by simpa using h2 j b⟩;rw[this];exact⟨k,hk,rfl,rfl,by simpa using h1⟩
inductive R2(ms:List MV)(x:Rq):Prop where
 |create (h:x.op=0) (h1:1≤x.vol) (h2:x.vol≤1000) (h3:0≤x.n) (h4:x.n≤100000) (h5:ms=[])
 |block (h:x.op=3∨x.op=4∧x.text.size=256) (k:Nat) (hk:k<ms.length) (hf:FW ms x.vol=(k,true)) (h0:0≤x.blk) (h1:x.blk<ms[k].2.1) (h2:x.op=4→∀b∈ms[k].2.2,b.1=x.blk) (h3:ms[k].2.2.length≤1)
 |snap (h:x.op=6) (m:MV) (h1:ms=[m]) (h2:m.1=x.vol) (h3:m.1<x.tv) (h4:1≤x.tv) (h5:x.tv≤1000) (h6:0≤m.2.1) (h7:m.2.2.length≤1)
theorem XZ{vs:List Vl}{id:Int}{v:Vl}(h:CF vs id=some v):∃k,∃hk:k<(Do vs).length,FW (Do vs) id=(k,true)/\(Do vs)[k]=(v.1,v.2.1,Ek v.2.2):=by
 unfold CF at h;rw[WE] at h;obtain⟨h1,k,hk,rfl,b⟩:=h;have hl:(Do vs).length=vs.length:=by unfold Do;rw[B4]
 have a:∀j (b:j<(Do vs).length) (c:j<vs.length),(Do vs)[j]=(vs[j].1,vs[j].2.1,Ek vs[j].2.2):=λj _ _=>by simp[Do]
 refine⟨k,by omega,RZ (by omega) (by rw[a k _ hk];simpa using h1) λj d c=>?_,a k _ hk⟩;rw[a j _ (by omega)];simpa using b j c
theorem mx{vs:List Vl}(h:D5 vs):O9 (Do vs):=by
 have hm:∀m∈Do vs,∃v∈vs,m=(v.1,v.2.1,Ek (v.2.2)):=λm hm=>by
  obtain⟨v,a,rfl⟩:=E1.1 hm;exact⟨v,a,rfl⟩
 refine⟨by unfold Do;rw[B4];exact h.len,λm c=>?_,λm c=>?_,?_,λm c b hb=>?_,λm c=>?_,λm c=>?_⟩
 ·obtain⟨v,a,rfl⟩:=hm m c;have:=h.ok v a;exact⟨this.id1,this.id2⟩
 ·obtain⟨v,a,rfl⟩:=hm m c;have:=h.ok v a;exact⟨this.sz0,this.sz1⟩
 ·unfold Do;exact VD.2 h.rise
 ·obtain⟨v,a,rfl⟩:=hm m c;obtain⟨q,d,rfl⟩:=E1.1 hb;have:=(h.ok v a).ok q d;exact⟨this.1,this.2.1,by show((Lib.repeatL [0] 256).toArray).size=256;rw[JU,D2,C6]⟩
 ·obtain⟨v,a,rfl⟩:=hm m c;refine VD.2 ?_
  match v.2.2,(h.ok v a).len with
  |[],_=>exact List.Pairwise.nil
  |[_],_=>exact W3 _ _
 ·obtain⟨v,a,rfl⟩:=hm m c;have:=(h.ok v a).len;show(Ek (v.2.2)).length<=_;rw[RU];omega
end Go.Proofs.YtmajkjjjfodhlaaGreatDoor
