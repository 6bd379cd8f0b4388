/- Part Mba. No condition of its own. -/
import Derived.Test.YtmajkjjjfodhlaaGreatDoorMaz
namespace Go.Proofs.YtmajkjjjfodhlaaGreatDoor
open Go.RowKit Tryz Go.Shelf
set_option linter.all false
set_option maxRecDepth 100000
set_option maxHeartbeats 8000000
def Dd(l:List Us):List Us:=l.filter λu=>u.2.2.1 !=0
def Jr(a b:List Us):Prop:=a.map (λu=>(u.1,u.2.1,u.2.2.1))=b.map λu=>(u.1,u.2.1,u.2.2.1)
theorem lH{a b:List Us}(h:Jr a b):a.length=b.length:=by
 have:=congrArg List.length h;simpa using this
theorem lI{a b:List Us}(h:Jr a b){i:Nat}(h1:i<a.length)(h2:i<b.length):a[i].1=b[i].1/\a[i].2.1=b[i].2.1/\a[i].2.2.1=b[i].2.2.1:=by
 have h3:(a.map λu=>(u.1,u.2.1,u.2.2.1))[i]'(by simpa using h1)=(b.map λu=>(u.1,u.2.1,u.2.2.1))[i]'(by simpa using h2):=by
  unfold Jr at h;simp only[h]
 simp only[HJ,Prod.mk.injEq] at h3;exact h3
theorem lJ(x y a:Int)(p q:Bool)(w:World):
 Calls prog 113 #[.agg #[x, y, a, .bool p], .agg #[x, y, a, .bool q]] w λe w'=>e= .returned (.bool true)/\Below w w w':=by
 go_enter func113,ntmps113;go_wp2_with fail;go_ret;exact⟨rfl,((A2 _ _).alloc (A1 _) _).alloc (by simp) _⟩
theorem lK(v:Value)(l:List Us)(w:World)(x:AT w v l)(hl:l.length<=1000000):
 Calls prog 112 #[v] w λe w'=>∃a c,e= .returned (.slice a (Dd l).length c)/\w'.ownsRow w.heap.size 47 4 (.slice a (Dd l).length c) (Dd l).length (Al (Dd l))/\Below w w w':=by
 obtain⟨i1,S,V,W,X⟩:=BW J9;obtain⟨a0,c0,rfl,_⟩:=id x;have P:=A0 x;clear x;go_enter func112,ntmps112;go_wp2_with fail;go_loopw [3,8] (λY y wr=>∃(k n:Nat) (a:Option Addr) (c:Nat),y= .int .i64 (k:Int)/\Y= .slice a n c/\k<=l.length/\Hid (n=(Dd (l.take k)).length)/\wr.ownsRow w.heap.size 47 4 (.slice a n c) n (Al (Dd (l.take k)))/\Below w w wr) (λ_ y _=>l.length-(intOf y).toNat)
 case atStart=>exact⟨0,0,none,0,rfl,rfl,A7 _,rfl,C2 _ _ _ _,A2 _ _⟩
 case round=>
  obtain⟨k,n,a,c,rfl,rfl,hk,p,g,hb⟩:=hrel;obtain⟨q,o⟩:=Hx2 g hb;have K:=hb.size;by_cases I:k<l.length
  ·obtain⟨b,off,rfl,a2,C,D,E,F⟩:=E6 (Aj P hb) I;have z:Hid (Dd (l.take (k+1))=Dd (l.take k)++if l[k].2.2.1 !=0 then[l[k]] else[]):=by
    unfold Hid Dd;rw[B1 I,H4];congr 1;simp only[List.filter_cons,List.filter_nil]
   generalize l[k]=u at*;obtain⟨h,j,d,m⟩:=u;dsimp only at C D E F;have a3:n<=1000000:=by
    have h1:=p.out;have h2:(Dd (l.take k)).length<=(l.take k).length:=K9 _ _;have h3:(l.take k).length<=k:=ID _ _;omega
   have a1:(k:Int)<(l.length:Int):=by omega
   have g1:(0:Int)<=(k:Int):=by omega
   clear g hb;by_cases r:d=0
   ·subst r;have f:Hid (Dd (l.take (k+1))=Dd (l.take k)):=by unfold Hid;rw[z.out];simp
    go_wp2_with fail;exact⟨⟨k+1,n,a,c,rfl,rfl,by omega,by unfold Hid;rw[f.out];exact p,by rw[f.out];exact q.alloc _,o.alloc K _⟩,by simp[intOf];omega⟩
   ·have f:Hid (Dd (l.take (k+1))=Dd (l.take k)++[(h,j,d,m)]):=by unfold Hid;rw[z.out];simp[r]
    have a4:(d !=0)=true:=by simp[r]
    have a5:(d==0)=false:=by simp[r]
    go_wp2_with (at_builtin;refine F0 _ rfl _ _ 45 rfl w.heap.size 47 i1 (.agg #[.int .i64 0, .int .i64 0, .int .i64 0, .bool false]) 4 32 underlying45 S V W X rfl (by decide) (.slice a n c) n _ rfl ((q.alloc _).alloc _) ⟨wr+1,0,none⟩ 1 1 (Bn (h,j,d,m)) rfl rfl (λi u U=>by rw[Bo,B2,show wr.heap.size+1=(wr.alloc (.cells #[h, j, d, .bool m] 47)).heap.size from(Bx _ _).symm,G7];simpa using U) (RI.one _) (by simp[maxLen];omega) (by omega) (by simp;omega) ?_)
    intro a6 Z t H _ T;have G:=((o.alloc K (.cells #[h, j, d, .bool m] 47)).alloc (by rw[Bx];omega) (.cells #[h, j, d, .bool m] 47)).grown H (by rw[Bx,Bx];omega) (λb hb=>Ah q b hb);obtain⟨A,B,rfl,_,_⟩:=Aw t;have J:Z.ownsRow w.heap.size 47 4 (.slice A (n+1) B) (n+1) (Al (Dd (l.take (k+1)))):=by
     rw[f.out,Mk];exact t
    obtain⟨N,L⟩:=Hx2 J G;have M:Hid (n+1=(Dd (l.take (k+1))).length):=by unfold Hid;rw[f.out,A9,<-p.out];rfl
    clear t H T G J q o C D E F;go_wp2_with fail;exact⟨⟨k+1,n+1,A,B,rfl,rfl,by omega,M,N,L⟩,by simp[intOf];omega⟩
  ·obtain rfl:k=l.length:=by omega
   have hd:decide ((l.length:Int)<(l.length:Int))=false:=A6 (by omega);have s:=p.out;rw[D4] at g s;obtain⟨O,Q⟩:=Hx2 g s;clear g hb s;go_wp2_with fail;go_ret;have R:=O.out;have:=Q.out;subst this;exact⟨_,_,rfl,R,o⟩
theorem lL(H I:Value)(c f:List Us)(w:World)(h1:AT w H c)(h2:AT w I f)(ha:Jr c f)(hl:c.length<=1000000):
 Calls prog 111 #[H,I, .func (.func 113) #[] #[]] w λe w'=>e= .returned (.bool true)/\Below w w w':=by
 have o:=lH ha;have Y:∀args w,(callFunc 113 args).run prog w= .ok (.enter 113 args) w:=DQ func113 (by kernel_rfl) rfl;obtain⟨a1,c1,rfl,_⟩:=id h1;obtain⟨P,c2,rfl,_⟩:=id h2;obtain⟨N,O,K,M⟩:=Hx4 h1 h2 ha o;rw[<-o];clear h1 h2 ha o;go_enter func111,ntmps111;go_wp2_with fail;go_loopw [17] (λs wr=>∃k:Nat,s= .int .i64 (k:Int)/\k<=c.length/\Below w w wr) (λs _=>c.length-(intOf s).toNat)
 case atStart=>exact⟨0,rfl,A7 _,A2 _ _⟩
 case round=>
  obtain⟨k,rfl,hk,hb⟩:=hrel;have x:=A0 hb;have U:=hb.size;by_cases q:k<c.length
  ·have r:k<f.length:=by rw[<-M.out];exact q
   obtain⟨b,off,rfl,X,Q,R,S,T⟩:=E6 (Aj N hb) q;obtain⟨g,i,rfl,h,y,z,A,B⟩:=E6 (a:=P) (n:=f.length) (cap:=c2) (Aj O hb) r;obtain⟨E,F,G⟩:=lI K q r;generalize c[k]=u at*;generalize f[k]=v at*;obtain⟨j,l,m,t⟩:=u;obtain⟨a5,a6,a7,J⟩:=v;dsimp only at E F G Q R S T y z A B;subst E F G;have d:=(A2 wr.heap.size wr).alloc (A1 _) (.cells #[j, l, m, .bool t] 47);have Z:=(d.cell (p:=⟨g,i+k*4,none⟩) h).trans y;have a0:=(d.cell (p:=⟨g,i+k*4+1,none⟩) h).trans z;have a2:=(d.cell (p:=⟨g,i+k*4+2,none⟩) h).trans A;have a3:=(d.cell (p:=⟨g,i+k*4+3,none⟩) h).trans B;have C:=λV=>lJ j l m t J V;have W:(k:Int)<(c.length:Int):=by omega
   have g1:(0:Int)<=(k:Int):=by omega
   clear hb d r;go_wp2_with fail;refine(C _).mono ?_;rintro e a4 ⟨rfl,D⟩;have L:=A0 (((x.alloc U (.cells #[j, l, m, .bool t] 47)).alloc (by rw[Bx];omega) (.cells #[j, l, m, .bool J] 47)).trans (D.mono (by rw[Bx,Bx];omega)));clear C D;go_wp2_with fail;exact⟨⟨k+1,rfl,by omega,L⟩,by simp[intOf];omega⟩
  ·obtain rfl:k=c.length:=by omega
   have hd:decide ((c.length:Int)<(c.length:Int))=false:=A6 (by omega);clear hb;go_wp2_with fail;go_ret;exact⟨rfl,x⟩
theorem lM{l:List Us}(h:AE l=true):Jr (Dd l) (Br l):=by
 have h1:=(EX.1 h).1;unfold Jr Dd Br;rw[R0];have e:(l.filter λu=>u.2.2.1 !=0)=l.filter λu=>decide (0<u.2.2.1):=by
  apply List.filter_congr;intro u a;have h2:=h1 u a;have h3:0<=u.2.2.1:=by
   unfold GK at h2;simp only[E0] at h2;omega
  by_cases h0:u.2.2.1=0
  ·simp[h0]
  ·have:0<u.2.2.1:=by omega
   simp[h0,this]
 rw[e];rfl
theorem AR.alike{p:Pl}(h:AR p){k:Nat}(hk:k<p.tabs.length):∃b:k<(Bt p.vols p.tabs.length).length,Jr (Dd p.tabs[k]) (Bt p.vols p.tabs.length)[k]:=by
 have e:=h.tabsP;have hl:k<(Bt p.vols p.tabs.length).length:=by rw[<-e,B4];exact hk
 refine⟨hl,?_⟩;have a:(Bt p.vols p.tabs.length)[k]=Br p.tabs[k]:=by
  simp only[<-e,HJ]
 rw[a];exact lM ((Fp.1 h.may).1 _ (BA hk))
theorem AR.pmay{p:Pl}(h:AR p):AN (Bt p.vols p.tabs.length)=true:=by rw[<-h.tabsP];exact Ra h.may
theorem O5(U r s t A:Value)(p:Pl)(w:World)(hp:AH w U r s t A p)(a:AR p):
 Calls prog 50 #[AO U r s t A p] w λe w'=>e= .returned (.bool true)/\Below w w w':=by
 obtain⟨d,mt,gen,area,vols,tabs⟩:=p;have c2:1<=mt:=a.mt1;have c3:mt<=1000:=a.mt2;have M:(d.kept.length:Int)=2+2*mt+16*tabs.length:=a.len;have bX:1<=gen:=a.gen1;have c0:gen<1099511627776:=a.gen2;have bO:0<=area:=a.area0;have bP:area<=1:=a.area1;have bV:tabs.length<=100:=a.few;have bs:1<=tabs.length:=(Fp.1 a.may).2.1;have b9:d.kept.length<=5000:=a.disk.most;have al:(Bt vols tabs.length).length=tabs.length:=by
  have e:=a.tabsP;dsimp only at e;rw[<-e,B4]
 have O:AN tabs=true:=a.may;have ax:Hid (∀k (hk:k<tabs.length),∃L:k<(Bt vols tabs.length).length,Jr (Dd tabs[k]) (Bt vols tabs.length)[k]):=λk hk=>a.alike hk;have aL:Hid (∀l∈tabs,l.length<=16):=λl hl=>GL ((Fp.1 O).1 l hl);have aU:Hid (Be w A tabs):=hp.tabs;have aj:=λc (i:Below w w c)=>KS U r s d c (hp.disk.below i) a.disk;have P:=λc (i:Below w w c)=>Ok A tabs c (DH hp.tabs i) a.fewT;rw[O] at P;have ak:=λc (i:Below w w c)=>XL t vols tabs.length c (EJ hp.vols i) a.vols a.many bs (by omega) (λn bl=>a.slots.of n (H3.2 bl)) a.pmay;obtain⟨a5,a8,rfl,_⟩:=id hp.disk.kept;obtain⟨at',a9,rfl,_⟩:=E8 hp.tabs;obtain⟨aC,aM,aF,aK⟩:=Hx4 aj P ak al;have b1:decide (mt<1)=false:=A6 (by omega);have b2:decide (1000<mt)=false:=A6 (by omega);have bw:decide (gen<1)=false:=A6 (by omega);have bx:decide (1099511627776<=gen)=false:=A6 (by omega);have bK:decide (area<0)=false:=A6 (by omega);have bL:decide (1<area)=false:=A6 (by omega);have b3:((d.kept.length:Int)!=2+2*mt+16*(tabs.length:Int))=false:=by rw[<-M];simp
 have b4:((d.kept.length:Int)==2+2*mt+16*(tabs.length:Int))=true:=by rw[<-M];simp
 clear hp a O aj P ak al M;obtain⟨kept,cache,fuse,keep,dead⟩:=d;dsimp only at b3 b4 b9;go_enter func50,ntmps50;go_wp2_with fail;have ac:=Aa.new w [.slice a5 kept.length a8,r, fuse,s, .bool dead, mt, gen, area,t, .slice at' tabs.length a9] 31;have y:=(A2 w.heap.size w).alloc (A1 _) (.cells #[.slice a5 kept.length a8,r, fuse,s, .bool dead, mt, gen, area,t, .slice at' tabs.length a9] 31);refine(aC _ y).mono ?_;rintro e c6 ⟨rfl,J⟩;have ah:=y.trans (J.mono y.size);have F:=ac.below J;obtain⟨f0,f1,f2,f3,f4,B,C,D,E,o⟩:=F.ten;obtain⟨j,u⟩:=Hx2 F ah;clear ac y J ah F f0 f1 f2 f3 f4 C D E;go_wp2_with fail;refine(aM _ u).mono ?_;rintro e c7 ⟨rfl,f⟩;have G:=j.below f;have v:=A0 (u.trans (f.mono u.size));clear B o;obtain⟨f0,f1,f2,f3,f4,B,C,D,E,o⟩:=G.ten;have X:=A0 G;clear G f j u;go_wp2_with fail;refine(aF _ v).mono ?_;rintro e V ⟨tv,rfl,ap,h⟩;have Q:=ap V (AW _ _);clear ap;have ad:=X.below h;have a2:=A0 (v.trans (h.mono v.size));obtain⟨bu,bM,rfl,_⟩:=E8 Q;have Z:=A0 Q;clear f0 f1 f2 f3 f4 B C D E o;obtain⟨_,_,_,_,_,_,_,_,_,o⟩:=ad.ten;clear X ad h Q v;rw[aK.out] at Z⊢;go_wp2_with fail;go_loopw [73] (λT wr=>∃k:Nat,T= .int .i64 (k:Int)/\k<=tabs.length/\Below V V wr) (λT _=>tabs.length-(intOf T).toNat)
 case atStart=>exact⟨0,rfl,A7 _,A2 _ _⟩
 case round=>
  obtain⟨k,rfl,hk,hb⟩:=hrel;have W:=A0 hb;have bq:=hb.size;have a3:=A0 (a2.trans (hb.mono a2.size));clear o;by_cases N:k<tabs.length
  ·obtain⟨L,af⟩:=ax k N;obtain⟨b,off,a6,aa,b6,bR,b8,aq⟩:=Gf (DH aU a3) N;subst b6;obtain⟨x,R,a7,ab,b7,bT,ai,ar⟩:=Gf (k:=k) (DH Z W) L;subst b7;have c1:=aL tabs[k] (BA N);generalize tabs[k]=l at*;generalize (Bt vols tabs.length)[k]=m at*;obtain⟨a0,a1,av⟩:=Hx3 aq ar af;have an:=λc (i:AT c (.slice a6 l.length aa) l)=>lK (.slice a6 l.length aa) l c i (by omega);have Y:=A0 an;have bp:(Dd l).length<=1000000:=A8 (K9 _ _) (by omega);generalize bb:l.length=c5 at*;generalize bc:m.length=au at*;have bN:(k:Int)<(tabs.length:Int):=by omega
   have g1:(0:Int)<=(k:Int):=by omega
   clear aq ar af an hb bb bc L;go_wp2_with fail;refine BM (S:=λaX=>aX.cell? ⟨x,R+k,none⟩=some (.slice a7 au ab)) (by kernel_rfl) 8 rfl ai (λg=>?_);have z:=(A2 wr.heap.size wr).drew;obtain⟨aP,aT⟩:=Hx2 (Aj a0 z) (Aj a1 z);have c4:wr.drew.heap.size=wr.heap.size:=rfl;have j:=A0 (W.trans (z.mono bq));clear z a0 a1 b8 ai;generalize wr.drew=a4 at*;refine Ab 0 g ?_;refine Ab 2 g ?_;refine Ab 3 g ?_;refine Ab 4 g ?_;refine Ab 5 g ?_;refine Px ?_;refine Ao 1 (λK q=>?_);go_simp;refine(Y a4 aP).mono ?_;rintro e aV ⟨b0,b5,rfl,ao,f⟩;have ag:x<a4.heap.size:=by omega
   have H:=(f.cell (p:=⟨x,R+k,none⟩) ag).trans g;refine q _ _ H (λ_=>?_);clear q K;refine Px ?_;refine Ao 6 (λK q=>?_);go_simp;refine(lL (.slice b0 (Dd l).length b5) (.slice a7 au ab) (Dd l) m aV (ED ao).1 (Aj aT f) av bp).mono ?_;rintro e bt ⟨rfl,h⟩;have I:=(h.cell (p:=⟨x,R+k,none⟩) (B3 ag f.size)).trans H;refine q _ _ I (λ_=>?_);clear q K;refine Px ?_;refine Ab 7 I ?_;refine Px ?_;refine Bc (by kernel_rfl) ?_ _;have ay:=A0 ((j.trans (f.mono j.size)).trans (h.mono (A8 j.size f.size)));clear g H I f h ao Y;go_wp2_with fail;exact⟨⟨k+1,rfl,by omega,ay⟩,by simp[intOf];omega⟩
  ·obtain rfl:k=tabs.length:=by omega
   have hd:decide ((tabs.length:Int)<(tabs.length:Int))=false:=A6 (by omega);clear hb;go_wp2_with fail;go_ret;exact⟨rfl,a3⟩
def DT(w:World)(b:Nat):Prop:=∀o i j k c,¬(w.cell? ⟨b,o,none⟩=some (.int .i64 i)/\w.cell? ⟨b,o+1,none⟩=some (.int .i64 j)/\w.cell? ⟨b,o+2,none⟩=some (.int .i64 k)/\w.cell? ⟨b,o+3,none⟩=some (.bool c))
theorem Lg{w:World}{b:Nat}{vs:List Value}{T:TypeId}(h:Aa w b vs T)(a:∀o i j k c,¬(vs[o]?=some (.int .i64 i)/\vs[o+1]?=some (.int .i64 j)/\vs[o+2]?=some (.int .i64 k)/\vs[o+3]?=some (.bool c))):DT w b:=by
 intro o i j k c hc;simp only[Hw h,List.getElem?_toArray] at hc;exact a o i j k c hc
theorem Fs{w:World}{b:Nat}{T:TypeId}{a1 a d e f:Option Addr}{g l m n p c1 c2 c3 c4 c5:Nat}{q r s t:Int}{y:Bool}
 (h:Aa w b [.slice a1 g c1, .slice a l c2, q, .slice d m c3, .bool y, r, s, t, .slice e n c4, .slice f p c5] T):DT w b:=by
 refine Lg h λo i j k c hc=>?_;obtain⟨h0,h1,h2,h3⟩:=hc;rcases o with _|_|_|_|_|_|_|_|_|_|o<;>simp at h0 h1 h2 h3
theorem XM{w:World}{b:Nat}{T:TypeId}{a1 a d:Option Addr}{e f g c1 c2 c3:Nat}{l m:Int}
 (h:Aa w b [l, m, .slice a1 e c1, .slice a f c2, .slice d g c3] T):DT w b:=by
 refine Lg h λo i j k c hc=>?_;obtain⟨h0,h1,h2,h3⟩:=hc;rcases o with _|_|_|_|_|o<;>simp at h0 h1 h2 h3
theorem Lh{w:World}{b:Nat}{T:TypeId}{a d:Int}{s:ByteArray}(h:Aa w b [a, .string s, d] T):DT w b:=by
 refine Lg h λo i j k c hc=>?_;obtain⟨h0,h1,h2,h3⟩:=hc;rcases o with _|_|_|o<;>simp at h0 h1 h2 h3
theorem lN{w w':World}{R:Nat->Prop}{v:Value}{l:List Us}(h:AT w v l)(d:Ac w w' R)(hr:∀b,R b->DT w b):AT w' v l:=by
 obtain⟨a,cap,e,hl,r,hc⟩:=h;refine⟨a,cap,e,hl,r,?_⟩;rcases hc with hc|⟨b,off,ha,hb,c⟩
 ·exact Or.inl hc
 ·by_cases h0:l=[]
  ·exact Or.inl h0
  ·have hp:0<l.length:=List.length_pos_iff.2 h0;have s:¬R b:=λn=>by
    have q:=c 0 hp;have f:=q 0 (by omega);have g:=q 1 (by omega);have k:=q 2 (by omega);have m:=q 3 (by omega);simp only[Nat.zero_mul,B2,Hb] at f g k m;exact hr b n off _ _ _ _ ⟨f,g,k,m⟩
   exact Or.inr ⟨b,off,ha,B3 hb d.size,λi o j p=>(d.cell hb s).trans (c i o j p)⟩
structure FV(n₀:Nat)(w:World)(v:Value)(ls:List (List Us)):Prop where
 tab:Be w v ls
 out:∀b,v.ownBlock=some b→n₀≤b
theorem MJ{n₀:Nat}{w w':World}{R:Nat->Prop}{v:Value}{ls:List (List Us)}(h:FV n₀ w v ls)(c:Ac w w' R)(hr:∀b,R b->b<n₀/\DT w b):FV n₀ w' v ls:=by
 obtain⟨⟨vs,⟨a,cap,e,hl,m,hc⟩,h2,h3⟩,g⟩:=h;refine⟨⟨vs,⟨a,cap,e,hl,m,?_⟩,h2,λi d f=>lN (h3 i d f) c λb hb=>(hr b hb).2⟩,g⟩;rcases hc with hc|⟨b,off,ha,hb,l⟩
 ·exact Or.inl hc
 ·have n:¬R b:=λk=>by
   have:=g b (by rw[e,ha];rfl);have:=(hr b k).1;omega
  exact Or.inr ⟨b,off,ha,B3 hb c.size,λi d j f=>(c.cell hb n).trans (l i d j f)⟩
theorem O6{n₀:Nat}{w w':World}{v:Value}{ls:List (List Us)}(h:FV n₀ w v ls)(hb:Below w w w'):FV n₀ w' v ls:=MJ h (Ai hb) λ_ h=>h.elim
theorem IG{w w':World}{b:Nat}(h:DT w b)(hb:b<w.heap.size)(a:Below w w w'):DT w' b:=by
 intro o i j k c hc;simp only[a.cell (p:=⟨b,_,none⟩) hb] at hc;exact h o i j k c hc
theorem Ic{w w':World}{b:Nat}(h:BP w' b)(hb:b<w.heap.size)(a:Below w w w'):BP w b:=by
 obtain⟨c,T,h1,h2⟩:=h;exact⟨c,T,(a.block b hb).symm.trans h1,h2⟩
def Cx(w:World)(R:Nat->Prop):Prop:=∀b,R b->b<w.heap.size/\¬BP w b/\DT w b
def AF(p:Pl):Pl:={p with disk:=BB p.disk p.mt (p.gen+1) (1-p.area) p.vols,gen:=p.gen+1,area:=1-p.area,tabs:=p.tabs.map Br}
theorem O7{p:Pl}(h:AR p)(a:p.gen+1<1099511627776)(hf:((AG p.vols).length:Int)<=p.mt):EF p.disk p.mt (p.gen+1) (1-p.area) p.vols:=by
 have h1:=h.len;have h2:=h.gen1;have h3:=h.area0;have h4:=h.area1;exact⟨h.disk,h.mt1,h.mt2,by omega,a,by omega,by omega,by omega,hf⟩
theorem lO{p:Pl}(h:AR p)(a:p.gen+1<1099511627776)(hf:((AG p.vols).length:Int)<=p.mt):AR (AF p):=by
 obtain⟨b,c,e,f,d,g⟩:=(O7 h a hf).fin;have h3:=h.area0;have h4:=h.area1;have h2:=h.gen1;exact⟨b,by show(BB _ _ _ _ _).keep.length<=_;rw[d];exact h.keep,h.vols,h.many,Ra h.may,by show(p.tabs.map Br).length<=_;rw[B4];exact h.few,V8 h.slots,h.mt1,h.mt2,by show((BB _ _ _ _ _).kept.length:Int)=_+16*((p.tabs.map Br).length:Int);rw[c,B4];exact h.len,by show 1<=p.gen+1;omega,a,by show 0<=1-p.area;omega,by show 1-p.area<=1;omega⟩
theorem RQ{p q:Pl}(h:AR p)(hm:q.mt=p.mt)(hr:∀y:Nat,2+2*p.mt<=(y:Int)->y<p.disk.kept.length->AV q.disk y=AV p.disk y){n:Int}(b:0<(As p.vols).count n):BO q n=BO p n:=by
 obtain⟨a,ha,hb⟩:=jU h b;obtain⟨d,j⟩:=h.slots.of n b;obtain⟨h0,c⟩:=Ke d;have f:=IV c;unfold BO;have e:DR q n=DR p n:=by unfold DR;rw[hm]
 rw[e,ha,BY,Wx λi g=>hr (a+i) (by unfold DR at ha;omega) (by omega)]
theorem XN{p:Pl}(h:AR p)(a:p.gen+1<1099511627776)(hf:((AG p.vols).length:Int)<=p.mt){n:Int}(b:0<(As p.vols).count n):BO (AF p) n=BO p n:=by
 refine RQ (q:=AF p) h rfl (λy h1 h2=>?_) b;have hk:=O7 h a hf;have h3:=h.area0;have h4:=h.area1;have h5:=h.mt1;show AV (BB _ _ _ _ _) y=_;rw[Jo hk.fin.2.2.1,Xo hk h2 (by omega) (Or.inr (Or.inl h1))]
def C5(d:Dk)(mt g a:Int)(vs:List Vl)(n:Nat):Pl:={disk:=d,mt:=mt,gen:=g,area:=a,vols:=vs,tabs:=Bt vs n}
theorem lP{p:Pl}(h:AR p){d:Dk}(hd:Bd d)(hk:d.keep.length<=10000000)(hl:d.kept.length=p.disk.kept.length){g a:Int}(g1:1<=g)(g2:g<1099511627776)(a0:0<=a)(a1:a<=1):AR (C5 d p.mt g a p.vols p.tabs.length):=by
 have b:Bt p.vols p.tabs.length=p.tabs.map Br:=(Wc h.vols.one h.slots h.may).symm;refine⟨hd,hk,h.vols,h.many,?_,?_,?_,h.mt1,h.mt2,?_,g1,g2,a0,a1⟩
 ·show AN (Bt _ _)=true;rw[b];exact Ra h.may
 ·show(Bt _ _).length<=_;rw[b,B4];exact h.few
 ·show CX _ (Bt _ _);rw[b];exact V8 h.slots
 ·show(d.kept.length:Int)=_+16*((Bt _ _).length:Int);rw[b,B4,hl];exact h.len
def Gm(p:Pl):Prop:=∀n∈As p.vols,GQ (BO p n) (rP n)=true
theorem O8{K a:Prop}(b:Hid K->a)(c:K):a:=b (A0 c)
theorem Li{P:Program}{l:List Oper}{Q:Exit->Act->World->Prop}{a:Act}{w:World}{S:World->Prop}{d:Nat}{c:Array Bool}{o o':Oper}(k f:Nat)
 (h:∀b:Act->World->Prop,Hid (∀a w,S w->(S w->wpAnyH P .any l.toArray Q S d (c.setIfInBounds k true) a w)->b a w)->if Region.wanted o (yielded l.toArray a.tmps)=true then Oper.wp P o a w b Q else b (a.put o.dst undef) w)
 (g:∀b:Act->World->Prop,Hid (∀a w,S w->(S w->wpAnyH P .any l.toArray Q S d (c.setIfInBounds f true) a w)->b a w)->if Region.wanted o' (yielded l.toArray a.tmps)=true then Oper.wp P o' a w b Q else b (a.put o'.dst undef) w)
 (i:l[k]?=some o:=by rfl)(j:l[f]?=some o':=by rfl)(hr:Region.ready .any l.toArray c=[k,f]:=by kernel_rfl):
 wpAnyH P .any l.toArray Q S (d+1) c a w:=
 HN hr (by simp) (He (by simpa using i) (λb e=>h b e) (He (by simpa using j) (λb e=>g b e) HF))
theorem lQ{p:Pl}(h:AN p.tabs=true):GN p.tabs=(AF p).tabs:=by
 unfold GN;rw[A4 h];show p.tabs.map Fm=p.tabs.map Br;refine HV λl hl=>?_;unfold Fm;rw[A4 ((Fp.1 h).1 l hl)]
theorem lR(ag af ah aj ai:Value)(p:Pl)(R:Nat->Prop)(w:World)(d3:Cx w R)(hp:AH w ag af ah aj ai p)(ab:AR p)(hd:p.disk.dead=false)(hf:p.disk.fuse= -1)(n:p.gen+1<1099511627776)(dc:((AG p.vols).length:Int)<=p.mt):
 Calls prog 21 #[AO ag af ah aj ai p] w λe w'=>∃e6 e5 e7 e9 e8,e= .returned (.tuple #[AO e6 e5 e7 e9 e8 (AF p), .int .i64 0])/\(∀f,Ac w' f R->AH f e6 e5 e7 e9 e8 (AF p))/\Below w w w':=by
 obtain⟨cw,cy,eA,I,b7,cu,em,ao,b3⟩:=Hx9 (λU (ad:Below w w U)=>O5 ag af ah aj ai p U (hp.below ad) ab) (λU (ad:Below w w U)=>lF ag af ah aj ai p U (hp.below ad) ab.sm) (λu U (ad:CU U u p.vols)=>Xs u p.vols U ad ab.vols) ab d3 hd hf n dc;obtain⟨b0,b1,d4,fb⟩:=Xh w [ag,af, p.disk.fuse,ah, .bool p.disk.dead, p.mt, p.gen, p.area,aj,ai] Bz 31 31;obtain⟨B0,ch,ap⟩:=Hx3 b0 b1 d4;clear b0 b1 d4 d3 hp ab hd hf n dc;go_enter func21,ntmps21;go_wp2_with fail;refine(cw _ ap).mono ?_;rintro e ea ⟨rfl,N⟩;obtain⟨b2,ck,aq⟩:=Hx3 (B0.below N) (ch.below N) (ap.trans (N.mono ap.size));have dn:w.heap.size+2<=ea.heap.size:=by have:=N.size;simp only[Bx] at this;omega
 obtain⟨f0,f1,f2,f3,f4,av,ax,ay,aC,aF⟩:=b2.ten;clear N B0 ch ap cw fb;go_wp2_with fail;refine(cy _ aq).mono ?_;rintro e ak ⟨hV,hW,hX,hY,hZ,rfl,a2,O⟩;obtain⟨F,G,H,l,Q,C,D,E,j,P,t,x,y,g,M,rfl,rfl,rfl,rfl,rfl⟩:=(a2 ak (AW _ _)).shape;have al:=b2.below O;obtain⟨bp,g1,g2,bq,bs,bt,bu,bw,bx,z⟩:=al.ten;obtain⟨hE,hF,hG,hH,hI,hJ,hK,hL,hM,hN⟩:=al.fz10;have ac:=al.put10 (.slice F C t) (.slice G D x) (.int .i64 p.disk.fuse) (.slice H E y) (.bool p.disk.dead) (.int .i64 p.mt) (.int .i64 p.gen) (.int .i64 p.area) (.slice l j g) (.slice Q P M);have bT:w.heap.size+2<=ak.heap.size:=A8 dn O.size;have bO:=aq.trans (O.mono aq.size);have bP:=bO.trans (ac.2.below (B:=w.heap.size) bO.size (λb hb=>by omega));have bK:=ac.2.blk (ck.below O) (by omega);have bX:∀f,Ac ((((((((((ak.setCell ⟨w,0,none⟩ (.slice F C t)).setCell ⟨w,1,none⟩ (.slice G D x)).setCell ⟨w,2,none⟩ (.int .i64 p.disk.fuse)).setCell ⟨w,3,none⟩ (.slice H E y)).setCell ⟨w,4,none⟩ (.bool p.disk.dead)).setCell ⟨w,5,none⟩ (.int .i64 p.mt)).setCell ⟨w,6,none⟩ (.int .i64 p.gen)).setCell ⟨w,7,none⟩ (.int .i64 p.area)).setCell ⟨w,8,none⟩ (.slice l j g)).setCell ⟨w,9,none⟩ (.slice Q P M)) f (λb=>b<w.heap.size+2)->AH f (.slice F C t) (.slice G D x) (.slice H E y) (.slice l j g) (.slice Q P M) p:=λf n=>a2 f ((ac.2.mono (R':=λb=>b<ea.heap.size) λ_ _ e=>by omega).trans (n.mono λ_ _ e=>by omega));have bV:w.heap.size+2<=((((((((((ak.setCell ⟨w,0,none⟩ (.slice F C t)).setCell ⟨w,1,none⟩ (.slice G D x)).setCell ⟨w,2,none⟩ (.int .i64 p.disk.fuse)).setCell ⟨w,3,none⟩ (.slice H E y)).setCell ⟨w,4,none⟩ (.bool p.disk.dead)).setCell ⟨w,5,none⟩ (.int .i64 p.mt)).setCell ⟨w,6,none⟩ (.int .i64 p.gen)).setCell ⟨w,7,none⟩ (.int .i64 p.area)).setCell ⟨w,8,none⟩ (.slice l j g)).setCell ⟨w,9,none⟩ (.slice Q P M)).heap.size:=by simp only[Hj];omega
 obtain⟨o,d5⟩:∃o,((((((((((ak.setCell ⟨w,0,none⟩ (.slice F C t)).setCell ⟨w,1,none⟩ (.slice G D x)).setCell ⟨w,2,none⟩ (.int .i64 p.disk.fuse)).setCell ⟨w,3,none⟩ (.slice H E y)).setCell ⟨w,4,none⟩ (.bool p.disk.dead)).setCell ⟨w,5,none⟩ (.int .i64 p.mt)).setCell ⟨w,6,none⟩ (.int .i64 p.gen)).setCell ⟨w,7,none⟩ (.int .i64 p.area)).setCell ⟨w,8,none⟩ (.slice l j g)).setCell ⟨w,9,none⟩ (.slice Q P M))=o:=⟨_,rfl⟩;have aK:=ac.1;rw[d5] at aK bK bP bX bV;obtain⟨cl,cm,b9,b5⟩:=Hx4 aK bK bP bX;have fi:o.cell? ⟨w,4,none⟩=some (.bool false):=by
  rw[<-cu.out];exact aK.cell 4 rfl
 clear al b2 ck aq cy a2 O ac bO bP bX bK aK f0 f1 f2 f3 f4 av ax ay aC aF;go_wp2_with fail;have c5:(p.gen==1099511627775)=false:=beq_eq_false_iff_ne.2 (by have:=ao.out;omega);have g6:decide (p.gen=1099511627775)=false:=A6 (by have:=ao.out;omega);refine BM (S:=λY=>Aa Y w.heap.size [.slice F C t, .slice G D x, p.disk.fuse, .slice H E y, .bool p.disk.dead, p.mt, p.gen, p.area, .slice l j g, .slice Q P M] 31) (by kernel_rfl) 13 rfl cl (λA=>?_);have aL:=(A2 o.heap.size o).drew;have e0:=λd0 (f6:Below o.drew.heap.size o.drew d0)=>b5 d0 (((Ai aL).mono λ_ _ h=>h.elim).trans ((Ai f6).mono λ_ _ h=>h.elim));obtain⟨cK,co,bb,cT,cF⟩:=Hx5 e0 cm.drew (b9.trans (aL.mono b9.size)) (show w.heap.size+2<=o.drew.heap.size from bV) (λf (n:Ac o.drew f (λb=>b<w.heap.size+2))=>b5 f (((Ai aL).mono λ_ _ h=>h.elim).trans n));clear e0 aL b5 cm b9 bV fi d5 cl bp g1 g2 bq bs bt bu bw bx z hE hF hG hH hI hJ hK hL hM hN bT dn;generalize o.drew=Y at*;refine Ab 0 A ?_;refine Ab 1 A ?_ (hy:=by intro w' T;have q:=T.cell 6 rfl;go_simp;with_reducible rfl);refine Px ?_;refine Ab (v:= .bool false) 2 A ?_ (hy:=by intro w' T;go_simp);refine Ab 3 A ?_;refine Px ?_;refine Ab 4 A ?_;refine Ab 5 A ?_ (hy:=by intro w' T;have q:=T.cell 8 rfl;go_simp;with_reducible rfl);refine Px ?_;refine Ab 9 A ?_;refine Ab 10 A ?_ (hy:=by intro w' T;have q:=T.cell 5 rfl;go_simp;with_reducible rfl);refine Px ?_;refine Ao 6 (λK a7=>?_);go_simp;refine(eA (.slice l j g) Y (cK Y (A2 _ _)).vols).mono ?_;rintro e eS ⟨rfl,N⟩;have bN:=A.below N;have bM:=A0 N;clear N;refine a7 _ _ bN (λ_=>?_);clear a7 K A;refine Px ?_;have e2:(Ap p.vols).size<=1000000:=by have h1:=I.mt2;have:=O1 (vs:=p.vols) (m:=p.mt.toNat) (by have:=b3.out;omega);omega
 have a2:=N5 (Ap p.vols) eS e2;refine Ao 7 (λK a7=>?_);go_simp;refine a2.mono ?_;rintro e d ⟨hO,hP,rfl,_,O⟩;have V:=bN.below O;have d2:=A0 O;clear O a2 e2;refine a7 _ _ V (λ_=>?_);clear a7 K bN;refine Px ?_;refine Ab 8 V ?_;refine Px ?_;have c6:decide (p.mt<((CD (AB (Ap p.vols))).length:Int))=false:=A6 (by have:=b3.out;unfold AG at this;omega);refine Ab (v:= .bool false) 11 V ?_ (hy:=by intro w' T;go_simp);refine Ab (v:= .bool false) 12 V ?_ (hy:=by intro w' T;go_simp);refine Px ?_;refine Bc (by kernel_rfl) ?_ _;clear c5 g6 c6;have a8:Below Y Y d:=bM.trans (d2.mono bM.size);obtain⟨b6,cp,b8⟩:=Hx3 (λf (n:Ac d f (λb=>b<w.heap.size+2))=>cF f (((Ai a8).mono λ_ _ h=>h.elim).trans n)) (co.below a8) (bb.trans (a8.mono bb.size));have bT:w.heap.size+2<=d.heap.size:=A8 cT a8.size;have hS:w<d.heap.size:=by omega
 have f9:IntKind.i64.wrap (p.gen+1)=p.gen+1:=C0 _ (by have:=ao.out;have:=I.gen1;omega);have fa:IntKind.i64.wrap (1-p.area)=1-p.area:=C0 _ (by have:=I.area0;have:=I.area1;omega);obtain⟨bp,g1,g2,bq,bs,bt,bu,bw,bx,z⟩:=V.ten;have cM:=A0 V;clear bM d2 V a8 cF co bb cT cK;go_wp2_with fail;have da:GN p.tabs=(AF p).tabs:=lQ I.may;obtain⟨Z,aM⟩:∃Z,d.alloc (.cells #[.slice F C t, .slice G D x, p.disk.fuse, .slice H E y, .bool p.disk.dead, p.mt, .int .i64 (p.gen+1), .int .i64 (1-p.area), .slice l j g, .slice Q P M] 31)=Z:=⟨_,rfl⟩;have bl:=Aa.new d [.slice F C t, .slice G D x, p.disk.fuse, .slice H E y, .bool p.disk.dead, p.mt, .int .i64 (p.gen+1), .int .i64 (1-p.area), .slice l j g, .slice Q P M] 31;have a9:Below d d Z:=by rw[<-aM];exact(A2 _ _).alloc (A1 _) _
 have e3:Z=d.heap.size+1:=by rw[<-aM];simp
 rw[aM] at bl⊢;have dT:=b6 Z ((Ai a9).mono λ_ _ h=>h.elim);have bR:=gR (.slice Q P M) p.tabs Z dT.tabs I.fewT;rw[da] at bR;obtain⟨ct,cc,ci,cz,an,bc⟩:=Hx6 bR (cM.below a9) (cp.below a9) bl a9 e3;clear bR bl a9 e3 dT aM da cM cp bp g1 g2 bq bs bt bu bw bx z f9 fa;refine ct.mono ?_;rintro e W ⟨r,s,rfl,e1,ds,a0⟩;have aV:=cc.below a0;have aX:=ci.below a0;have a4:=cz.below a0;have cX:=a4.set 9 (.slice r (AF p).tabs.length s);have cg:=aV.other (c:=d.heap.size) (by omega) 9 (.slice r (AF p).tabs.length s);have cj:=aX.other (c:=d.heap.size) (by omega) 9 (.slice r (AF p).tabs.length s);have aa:Ac d (W.setCell ⟨d,9,none⟩ (.slice r (AF p).tabs.length s)) (λ_=>False):=(Ai (an.trans (a0.mono an.size))).trans' (Ad W d.heap.size 9 _) (λi f7 e=>by omega);have c0:=b6 _ (aa.mono λ_ _ h=>h.elim);obtain⟨ht,hu,hv,hw,hx,hz,hA,hB,hC,hD⟩:=aV.ten;obtain⟨fj,fk,fr,fu,fv,fz,g0,g3,g4,g5⟩:=a4.ten;obtain⟨c5,g7,g8,g9,ga,c6,gb,gd,gf,gg⟩:=a4.fz10;have dk:=Xt p.disk p.mt (p.gen+1) (1-p.area) p.vols (O7 I ao b3) I.keep em cu (.slice F C t) (.slice G D x) (.slice H E y) (.slice l j g) (.slice F C t) (.slice G D x) (.int .i64 p.disk.fuse) (.slice H E y) (.bool p.disk.dead) (.slice r (AF p).tabs.length s) _ c0.disk c0.vols I.vols;obtain⟨cv,eb,cq,b4,es,ey,eg,cC,cS⟩:=Hx9 dk cg cj cX aa (FV.mk e1 ds) aX a4 (b8.trans ((an.mono b8.size).trans (a0.mono (A8 b8.size an.size))));have hT:w.heap.size≠d.heap.size:=by omega
 clear dk cg cj cX aa e1 ds aX a4 a0 c0 aV cc ci cz ct;go_wp2_with fail;have d6:(AF p).disk=BB p.disk p.mt (p.gen+1) (1-p.area) p.vols:=rfl;have cs:=A0 d6;refine cv.mono ?_;rintro e X ⟨i1,i0,i2,rfl,bL,aT⟩;have aU:=bL X (AW _ _);obtain⟨a1,c1,rfl⟩:=AK aU.kept;obtain⟨J,c2,rfl⟩:=AK aU.cache;obtain⟨L,c3,rfl⟩:=AK aU.keep;generalize BB p.disk p.mt (p.gen+1) (1-p.area) p.vols=a at*;have a5:=b4.below aT;have cU:=cq.below aT;have e4:d<(W.setCell ⟨d,9,none⟩ (.slice r (AF p).tabs.length s)).heap.size:=b4.lt;have a6:=((((a5.set 0 (.slice a1 a.kept.length c1)).set 1 (.slice J a.cache.length c2)).set 2 (.int .i64 a.fuse)).set 3 (.slice L a.keep.length c3)).set 4 (.bool a.dead);have z:=(((((Ad X d.heap.size 0 (.slice a1 a.kept.length c1)).trans (Ad _ d.heap.size 1 (.slice J a.cache.length c2))).trans (Ad _ d.heap.size 2 (.int .i64 a.fuse))).trans (Ad _ d.heap.size 3 (.slice L a.keep.length c3))).trans (Ad _ d.heap.size 4 (.bool a.dead)));have a3:=z.blk cU (by omega);obtain⟨c7,c8,c9,ca,cb,_,_,_,_,_⟩:=a5.ten;obtain⟨gT,gX,h0,h5,h6,_,_,_,_,_⟩:=a5.fz10;have hR:d<X.heap.size:=a5.lt;obtain⟨cx,ek,cr,cP⟩:=Hx4 (And.intro a6 (And.intro a3 z)) bL aT e4;have f8:True:=trivial;clear bL aT a5 cU a6 a3 z b4 cq eb aU cv e4 ht hu hv hw hx hz hA hB hC hD fj fk fr fu fv fz g0 g3 g4 g5 c5 g7 g8 g9 ga c6 gb gd gf gg d6
 go_wp2_with (change wpList _ _ _ ({dst:=some 59,op:=_,type:=_,pos:=_,after:=_,guard:=_}::_) _ _
              clear f8 c7 c8 c9 ca cb gT gX h0 h5 h6;obtain⟨a6,a3,z⟩:=cx.out;clear cx;generalize ((((X.setCell ⟨d,0,none⟩ (.slice a1 a.kept.length c1)).setCell ⟨d,1,none⟩ (.slice J a.cache.length c2)).setCell ⟨d,2,none⟩ (.int .i64 a.fuse)).setCell ⟨d,3,none⟩ (.slice L a.keep.length c3)).setCell ⟨d,4,none⟩ (.bool a.dead)=au at*;have aP:Below au au (au.alloc (.cells #[.slice a1 a.kept.length c1, .slice J a.cache.length c2, a.fuse, .slice L a.keep.length c3, .bool a.dead] 27)):=(A2 _ _).alloc (A1 _) _;have cV:=a6.below aP;have ar:=a3.below aP;generalize au.alloc (.cells #[.slice a1 a.kept.length c1, .slice J a.cache.length c2, a.fuse, .slice L a.keep.length c3, .bool a.dead] 27)=f5 at*;have hp:=ar.put10 (.slice a1 a.kept.length c1) (.slice J a.cache.length c2) (.int .i64 a.fuse) (.slice L a.keep.length c3) (.bool a.dead) (.int .i64 p.mt) (.int .i64 (p.gen+1)) (.int .i64 (1-p.area)) (.slice l j g) (.slice r (AF p).tabs.length s);obtain⟨c7,c8,c9,ca,cb,gk,gl,gm,gs,gx⟩:=cV.ten;obtain⟨h7,t1,t2,h8,h9,ha,hc,he,hg,hh⟩:=ar.ten;obtain⟨hi,hj,hk,hl,hm,hn,ho,hq,hr,hs⟩:=ar.fz10;obtain⟨cL,et,ec⟩:=Hx3 hp z aP;clear hp z aP a6 a3 cV ar)
 obtain⟨h1,h2⟩:=cL.out;clear cL c7 c8 c9 ca cb gk gl gm gs gx h7 t1 t2 h8 h9 ha hc he hg hh hi hj hk hl hm hn ho hq hr hs;generalize (((((((((f5.setCell ⟨w+1,0,none⟩ (.slice a1 a.kept.length c1)).setCell ⟨w+1,1,none⟩ (.slice J a.cache.length c2)).setCell ⟨w+1,2,none⟩ (.int .i64 a.fuse)).setCell ⟨w+1,3,none⟩ (.slice L a.keep.length c3)).setCell ⟨w+1,4,none⟩ (.bool a.dead)).setCell ⟨w+1,5,none⟩ (.int .i64 p.mt)).setCell ⟨w+1,6,none⟩ (.int .i64 (p.gen+1))).setCell ⟨w+1,7,none⟩ (.int .i64 (1-p.area))).setCell ⟨w+1,8,none⟩ (.slice l j g)).setCell ⟨w+1,9,none⟩ (.slice r (AF p).tabs.length s)=d1 at*;obtain⟨f0,f1,f2,f3,f4,av,ax,ay,aC,aF⟩:=h1.ten;have hQ:w.heap.size+2<=d.heap.size:=bT;have n:Ac X d1 (λk=>k=d.heap.size\/k=w.heap.size+1):=((et.mono λk _ e=>Or.inl e).trans ((Ai ec).mono λ_ _ e=>e.elim)).trans (h2.mono λk _ e=>Or.inr e);refine A5 (v:= .tuple #[.agg #[.slice a1 a.kept.length c1, .slice J a.cache.length c2, a.fuse, .slice L a.keep.length c3, .bool a.dead, p.mt, .int .i64 (p.gen+1), .int .i64 (1-p.area), .slice l j g, .slice r (AF p).tabs.length s], .int .i64 0]) (by simp[results,results21,go_sem,f0,f1,f2,f3,f4,av,ax,ay,aC,aF]) rfl ?_;clear f0 f1 f2 f3 f4 av ax ay aC aF h1;have hU:d<W.heap.size:=cC.lt;have aa:Ac W X (λk=>k=d.heap.size):=(Ad W d.heap.size 9 _).trans ((Ai cr).mono λ_ _ e=>e.elim);have dd:Ac W d1 (λk=>k=d.heap.size\/k=w.heap.size+1):=(aa.mono λk _ e=>Or.inl e).trans n;refine⟨.slice a1 a.kept.length c1, .slice J a.cache.length c2, .slice L a.keep.length c3, .slice l j g, .slice r (AF p).tabs.length s,by rw[<-cs.out];rfl,λf c4=>⟨?_,?_,?_⟩,cS.trans (dd.below (B:=w.heap.size) (by omega) (λk e=>by omega))⟩
 ·show By f _ _ _ (AF p).disk;rw[cs.out];exact ek f ((n.mono λk _ e=>by have:=cP.out;simp only[Hj] at this⊢;omega).trans (c4.mono λk _ e=>by have:=(b7 k e).1;have:=cP.out;simp only[Hj] at this⊢;omega))
 ·have h4:Ac X f (λk=>k=d.heap.size\/k<w.heap.size+2):=(n.mono λk _ e=>by omega).trans (c4.mono λk _ e=>by have:=(b7 k e).1;omega);have h3:Ac d f (λb=>b<w.heap.size+2):=((es.mono (R':=λb=>b<w.heap.size+2) λ_ _ e=>e.elim).trans' ((Ai cr).mono (R':=λ_=>False) λ_ _ e=>e.elim) (λ_ _ e=>e.elim)).trans' h4 (λi f7 e=>by omega);exact(b6 f h3).vols
 ·refine(MJ ey (R:=λk=>k=d.heap.size\/k=w.heap.size+1\/R k) ((dd.mono λk _ e=>by omega).trans (c4.mono λk _ e=>Or.inr (Or.inr e))) λb hb=>?_).tab;rcases hb with rfl|rfl|hb
  ·exact⟨by rw[bc.out];omega,Fs cC⟩
  ·exact⟨by rw[bc.out];omega,Fs eg⟩
  ·have:=b7 b hb;exact⟨by rw[bc.out];omega,IG this.2.2 this.1 (cS)⟩
section
def IH(p:Pl)(id blk:Int)(s:ByteArray):Prop:=∃v n,CF p.vols id=some v/\EI (v.2.2) blk=some n/\Kl p n s
theorem XO{p:Pl}{id blk n:Int}{v:Vl}(h1:CF p.vols id=some v)(h2:EI (v.2.2) blk=some n):0<(As p.vols).count n:=OP (K5 h1).1 (Ol h2)
theorem XP{s t:ByteArray}{pk ok:Bool}(h:EV s t pk ok)(h0:s.size=256):EE t pk=s/\GQ t pk=true:=by
 obtain⟨_,h2,_⟩:=NX h h0;obtain⟨a,b⟩:=WR h2;exact⟨by rw[a,Uu],b⟩
section
variable {p:Pl} {v:Vl} {blk:Int} {t:ByteArray} {pk:Bool} {c:Nat}
theorem lS(h:CH p v blk t pk c){s:ByteArray}{ok:Bool}(d:EV s t pk ok)(h0:s.size=256):IH (AU p v blk t pk c) v.1 blk s:=by
 obtain⟨a,b⟩:=XP d h0;refine⟨(v.1,v.2.1,[(blk,Bi c (p.tabs.getD c []) t pk)]),Bi c (p.tabs.getD c []) t pk,by simp[CF,AU],by simp[EI],?_⟩;unfold Kl;rw[WT h,h.num.2.2.2.2];exact⟨a,b⟩
theorem lT(h:CH p v blk t pk c){s:ByteArray}{ok:Bool}(a:EV s t pk ok)(h0:s.size=256)(ha:Gm p):Gm (AU p v blk t pk c):=by
 intro n b;have h1:=h.count n;have h2:0<(As (AU p v blk t pk c).vols).count n:=H3.2 b;by_cases e:Bi c (p.tabs.getD c []) t pk=n
 ·subst e;rw[WT h,h.num.2.2.2.2];exact(XP a h0).2
 ·rw[A3 e] at h1;have h3:0<(As p.vols).count n:=by omega
  rw[jW h h3];exact ha n (H3.1 h3)
theorem RR(h:CH p v blk t pk c):(AU p v blk t pk c).disk.cache.length<=p.disk.cache.length+8/\(AU p v blk t pk c).disk.kept=p.disk.kept/\(AU p v blk t pk c).disk.fuse=p.disk.fuse/\(AU p v blk t pk c).disk.dead=p.disk.dead:=by
 obtain⟨a,k,g,i,j,l,m,n,o,b⟩:=h.disk;obtain⟨d,e,q,f,r⟩:=Jl p.disk a t k;rw[b];exact⟨by omega,d,e,f⟩
end
theorem lU{p q:Pl}(hd:q.disk=p.disk)(hm:q.mt=p.mt){n:Int}{s:ByteArray}(h:Kl p n s):Kl q n s:=by
 unfold Kl;rw[Xl hd hm];exact h
theorem lV(p:Pl)(id n:Int):Gm (Ia p id n):=λm hm=>by
 rw[show(Ia p id n).vols=[_] from rfl,Iz] at hm;cases hm
theorem lW{p:Pl}{v:Vl}{tv:Int}(h:Ei p v tv){b:Int}{s:ByteArray}(c:IH p v.1 b s):IH (DS p v tv) tv b s:=by
 obtain⟨a,m,h1,h2,h3⟩:=c;have d:=h.lt;rw[h.vs] at h1;obtain rfl:a=v:=by simpa[CF,eq_comm] using h1
 refine⟨(tv,a.2.1,a.2.2),m,?_,h2,lU rfl rfl h3⟩;show CF (p.vols++_) tv=_;rw[h.vs];unfold CF;rw[D3,List.find?_cons,show(a.1==tv)=false by simpa using(by omega:a.1≠tv)];simp
theorem lX{p:Pl}{v:Vl}{tv:Int}(h:Ei p v tv)(ha:Gm p):Gm (DS p v tv):=λn a=>by
 rw[h.vals] at a;rw[Xl (p:=p) (q:=DS p v tv) rfl rfl];exact ha n (by rw[h.vs,Iz];simpa using a)
theorem lY{p:Pl}(h:AR p)(a:p.gen+1<1099511627776)(hf:((AG p.vols).length:Int)<=p.mt){id b:Int}{s:ByteArray}(c:IH p id b s):IH (AF p) id b s:=by
 obtain⟨d,m,h1,h2,h3⟩:=c;refine⟨d,m,h1,h2,?_⟩;unfold Kl;rw[XN h a hf (XO h1 h2)];exact h3
theorem lZ{p:Pl}(h:AR p)(b:p.gen+1<1099511627776)(hf:((AG p.vols).length:Int)<=p.mt)(ha:Gm p):Gm (AF p):=λn a=>by
 rw[XN h b hf (H3.2 a)];exact ha n a
theorem ma{p:Pl}(h:AR p){d:Dk}(hr:∀y:Nat,2+2*p.mt<=(y:Int)->y<p.disk.kept.length->AV d y=AV p.disk y){g a:Int}{n:Nat}{id b:Int}{s:ByteArray}(c:IH p id b s):IH (C5 d p.mt g a p.vols n) id b s:=by
 obtain⟨e,m,h1,h2,h3⟩:=c;refine⟨e,m,h1,h2,?_⟩;unfold Kl;rw[RQ (q:=C5 d p.mt g a p.vols n) h rfl hr (XO h1 h2)];exact h3
theorem mb{p:Pl}(h:AR p){d:Dk}(hr:∀y:Nat,2+2*p.mt<=(y:Int)->y<p.disk.kept.length->AV d y=AV p.disk y){g a:Int}{n:Nat}(ha:Gm p):Gm (C5 d p.mt g a p.vols n):=λm hm=>by
 rw[RQ (q:=C5 d p.mt g a p.vols n) h rfl hr (H3.2 hm)];exact ha m hm
theorem me{n:Int}(h1:1<=n)(a:n<=8):Cc [] n=true:=by
 obtain⟨k,rfl⟩:∃k:Nat,n=k:=⟨n.toNat,by omega⟩;have:k=1\/k=2\/k=3\/k=4\/k=5\/k=6\/k=7\/k=8:=by omega
 rcases this with rfl|rfl|rfl|rfl|rfl|rfl|rfl|rfl<;>decide
theorem mf{ls:List (List Us)}{n nt:Int}{i:Nat}(b:i<ls.length)(d:(i:Int)≠nt)(h:ls.getD i []=[])(h1:1<=n)(a:n<=8):∃c,FP ls n nt=some c:=by
 cases hs:FP ls n nt with
 |some c=>exact⟨c,rfl⟩
 |none=>
  unfold FP at hs;rw[HS] at hs;have:=hs i (HW.2 b);rw[h,me h1 a] at this;simp[d] at this
end
def Id(n:Nat):Dk:=⟨List.replicate n Gj,[],-1,[],false⟩
theorem mg{n:Nat}(h1:1<=n)(h2:n<=5000):Bd (Id n):=by
 have hl:(Id n).kept.length=n:=C6;refine⟨by rw[hl];exact h1,by rw[hl];exact h2,by show(0:Nat)<=_;omega,by show(-1:Int)≤-1;omega,by show(-1:Int)<=_;omega,by show(0:Nat)<=_;omega,λs hs=>?_,λq a=>by cases a⟩;rw[(List.mem_replicate.1 hs).2];rfl
theorem mh(vs:List Vl):(Ap vs).size<=7+(vs.map λv=>21+14*(v.2.2).length).sum:=by
 have h:∀vs:List Vl,(Cv vs).length<=(vs.map λv=>21+14*(v.2.2).length).sum:=by
  intro vs;induction vs with
  |nil=>simp[Cv]
  |cons v vs a=>
   have h2:=Ri (Cm v);have h3:=Mp v;rw[OF,A9,F4,L3];omega
 have h1:=h vs;have h2:=Jg vs.length;have e:(Ap vs).size=(Kf vs).length:=by rw[<-Rh,Hy];rfl
 rw[e,Kf,A9];omega
theorem XQ{vs:List Vl}{m:Nat}(h:7+(vs.map λv=>21+14*(v.2.2).length).sum+11<=32*m):(AG vs).length<=m:=by
 have h1:=mh vs;have h2:=OD (Ap vs);have h3:=Jg (Ap vs).size;have h4:(AG vs).length=Bw (AB (Ap vs)):=Ob _;unfold Bw at h4;omega
def BE(c m:Nat):Pl:={disk:=BB (Id (2+2*m+16*c)) m 1 0 [],mt:=m,gen:=1,area:=0,vols:=[],tabs:=List.replicate c []}
theorem RS{c m:Nat}(h1:1<=c)(h3:1<=m)(h4:m<=500)(h5:2+2*m+16*c<=5000):EF (Id (2+2*m+16*c)) m 1 0 []:=by
 have hl:(Id (2+2*m+16*c)).kept.length=2+2*m+16*c:=C6;refine⟨mg (by omega) h5,by omega,by omega,by omega,by omega,by omega,by omega,by rw[hl];omega,?_⟩;have:=XQ (vs:=[]) (m:=1) (by simp);omega
theorem XR{c m:Nat}(h1:1<=c)(h2:c<=100)(h3:1<=m)(h4:m<=500)(h5:2+2*m+16*c<=5000):AR (BE c m):=by
 have hk:=RS h1 h3 h4 h5;obtain⟨e,f,h,j,g,k⟩:=hk.fin;have hl:(Id (2+2*m+16*c)).kept.length=2+2*m+16*c:=C6;have hr:∀i:Nat,(List.replicate c ([]:List Us)).getD i []=[]:=λi=>by
  rw[B9,N3];split<;>rfl
 refine⟨e,by show(BB _ _ _ _ _).keep.length<=_;rw[g];show(0:Nat)<=_;omega,⟨by show(0:Nat)<=_;omega,nofun,List.Pairwise.nil,nofun⟩,by show(0:Nat)<=_;omega,?_,by show(List.replicate c ([]:List Us)).length<=_;rw[C6];exact h2,?_,by show(1:Int)<=(m:Int);omega,by show(m:Int)<=_;omega,?_,by show(1:Int)<=1;omega,by show(1:Int)<_;omega,by show(0:Int)<=0;omega,by show(0:Int)<=1;omega⟩
 ·refine Fp.2 ⟨λl hl=>?_,by show 1<=(List.replicate c ([]:List Us)).length;rw[C6];exact h1,by show(List.replicate c ([]:List Us)).length<=_;rw[C6];omega⟩;rw[(List.mem_replicate.1 hl).2];decide
 ·refine⟨λn a=>absurd a (by show¬0<(0:Nat);omega),λn a=>absurd a (by show¬0<(0:Nat);omega),λi u d=>?_,λm n a=>absurd a (by show¬0<(0:Nat);omega)⟩;have b:u∈(List.replicate c ([]:List Us)).getD i []:=d;rw[hr] at b;cases b
 ·show((BB _ _ _ _ _).kept.length:Int)=2+2*(m:Int)+16*((List.replicate c ([]:List Us)).length:Int);rw[f,hl,C6];omega
theorem RT{c m:Nat}(h1:1<=c)(h3:1<=m)(h4:m<=500)(h5:2+2*m+16*c<=5000):Jp (BE c m).disk.kept m 1 0 []/\(BE c m).disk.cache=[]/\(BE c m).disk.fuse= -1/\(BE c m).disk.dead=false:=by
 have hk:=RS h1 h3 h4 h5;obtain⟨e,f,a,b,g,d⟩:=hk.fin;exact⟨Xn hk,a,b,d⟩
theorem mi(n₀:Nat)(v:Value)(b0:Nat)(ls:List (List Us))(n:Int)(w:World)(t:FV n₀ w v ls)(D:n₀<=w.heap.size)(E:w.cell? ⟨b0,0,none⟩=some (.int .i64 n))(g:BG n=true)(i:Kg ls n (-1)=true)(p:FN ls):
 Calls prog 98 #[v, .slice (some ⟨b0,0,none⟩) 1 1] w λe w'=>∃u,e= .returned u/\FV n₀ w' u (Ce ls [n])/\Below w w w':=by
 have y:Hid (Ce ls [n]=ER ls (rC n) (rA n) (rS n) (rP n) (-1)):=rfl;have h:=λj=>LD n j (M5 g);rw[Ii g,g] at h;simp only[show n/2/257/16=rC n from rfl,show n/2/257%16=rA n from rfl,show n/2%257=rS n from rfl,show(n%2==1)=rP n from rfl] at h;have i:Dc ls (rC n) (rA n) (rS n) (rP n) (-1)=true:=i;generalize rC n=c at*;generalize rA n=a at*;generalize rS n=s at*;generalize rP n=pk at*;have d:=A0 (λj (A:Below w w j)=>iy v ls c a s pk j (DH t.tab A) p);unfold Jj at d;rw[i] at d;clear p i t g;go_enter func98,ntmps98;go_wp2_with fail;refine En λK m=>?_;go_wp2_with fail;refine(h _).mono ?_;rintro e F ⟨rfl,k⟩;have f:=k.alloc k.size (.cells #[c, a, s, .bool pk] 162);have l:=A0 f;clear k h;go_wp2_with fail;refine(d _ f).mono ?_;rintro e B ⟨C,c3,rfl,r,q,o⟩;obtain⟨z,x⟩:=Hx2 (FV.mk r λb hb=>by have:=q b hb;have:=f.size;omega:FV n₀ B _ _) (l.trans (o.mono l.size));clear f r q o d;go_wp2_with fail;refine m _ _ ?_;clear m;go_wp2_with fail;go_ret;exact⟨_,rfl,by rw[y.out];exact z,x⟩
end Go.Proofs.YtmajkjjjfodhlaaGreatDoor
