/- Part Maw. No condition of its own. -/
import Derived.Deep.Onto
import Derived.Test.YtmajkjjjfodhlaaGreatDoorMav
namespace Go.Proofs.YtmajkjjjfodhlaaGreatDoor
open Go.RowKit Tryz Go.Shelf
set_option linter.all false
set_option maxRecDepth 100000
set_option maxHeartbeats 8000000
theorem Hm:type_of%@World.ownsRow.mono:=@World.ownsRow.mono
section
def DS(p:Pl)(v:Vl)(tv:Int):Pl:={p with vols:=p.vols++[(tv,v.2.1,v.2.2)],tabs:=Bf p.tabs (Ax v.2.2)}
structure Ei(p:Pl)(v:Vl)(tv:Int):Prop where
 ok:AR p
 vs:p.vols=[v]
 lt:v.1<tv
 t2:tv≤1000
theorem Ei.mem{p:Pl}{v:Vl}{tv:Int}(h:Ei p v tv):v∈p.vols:=by rw[h.vs];exact B6.2 rfl
theorem Ei.t1{p:Pl}{v:Vl}{tv:Int}(h:Ei p v tv):1<=tv:=by have:=(h.ok.vols.ok v h.mem).id1;have:=h.lt;omega
theorem Ei.new{p:Pl}{v:Vl}{tv:Int}(h:Ei p v tv):CF p.vols tv=none:=Wr λx a=>by
 rw[h.vs] at a;rw[B6.1 a];have:=h.lt;omega
theorem Ei.len1{p:Pl}{v:Vl}{tv:Int}(h:Ei p v tv):(Ax v.2.2).length<=1:=by rw[Ax,B4];exact(h.ok.vols.ok v h.mem).len
theorem Ei.vals{p:Pl}{v:Vl}{tv:Int}(h:Ei p v tv):As (DS p v tv).vols=Ax v.2.2++Ax v.2.2:=by
 show As (p.vols++_)=_;rw[h.vs];simp[As]
theorem Ei.slots{p:Pl}{v:Vl}{tv:Int}(h:Ei p v tv):∀k,k<=(Ax v.2.2).length->
 CX (λn=>(As p.vols).count n+((Ax v.2.2).take k).count n) (Bf p.tabs ((Ax v.2.2).take k))/\AN (Bf p.tabs ((Ax v.2.2).take k))=true/\(Bf p.tabs ((Ax v.2.2).take k)).length=p.tabs.length/\∀hk:k<(Ax v.2.2).length,Kg (Bf p.tabs ((Ax v.2.2).take k)) (Ax v.2.2)[k] 1=true:=
 iM h.ok.slots h.ok.may (λn a=>by
  obtain⟨q,b,rfl⟩:=E1.1 a;exact OP h.mem b) (λn=>by
  have h1:=h.len1;have h3:(Ax v.2.2).count n<=(Ax v.2.2).length:=List.count_le_length;rw[h.vs,Iz];omega)
theorem ld{p:Pl}{v:Vl}{tv:Int}(h:Ei p v tv):AR (DS p v tv):=by
 have hs:=h.slots (Ax v.2.2).length (A1 _);rw[E2 (A1 _)] at hs;obtain⟨e,f,g,_⟩:=hs;have b:=h.ok.vols.ok v h.mem;have j:=b.id1;have d:=h.lt;have i:=h.len1;have c:=h.ok.vols.one;rw[h.vs,Iz] at c;exact h.ok.next (vs:=(DS p v tv).vols) (tabs:=Bf p.tabs (Ax v.2.2)) h.ok.disk rfl rfl ⟨by show(p.vols++_).length<=_;rw[h.vs];simp,λx a=>by
  rw[show(DS p v tv).vols=p.vols++[_] from rfl,h.vs] at a;rcases Dn.1 a with rfl|a
  ·exact b
  ·rw[B6.1 a];exact⟨by show 1<=tv;omega,h.t2,b.sz0,b.sz1,b.len,b.ok⟩,by
  show(p.vols++[_]).Pairwise _;rw[h.vs];simpa using d,λx a y hy=>by
  rw[h.vals] at a hy;exact c x (by simpa using a) y (by simpa using hy)⟩ (by rw[h.vals,A9];omega) f g (Wq e λn=>by rw[h.vals,List.count_append,h.vs,Iz])
theorem Xl{p q:Pl}(hd:q.disk=p.disk)(hm:q.mt=p.mt)(n:Int):BO q n=BO p n:=by
 unfold BO DR;rw[hd,hm]
def CS(d:Dk)(a:Nat)(l:List ByteArray):Nat->Dk
 |0=>d
 |k+1=>CY (CS d a l k) ((a+k:Nat):Int) (l.getD k ByteArray.empty)
theorem Kr(d:Dk)(a:Nat)(l:List ByteArray):∀k,(CS d a l k).kept=d.kept/\(CS d a l k).fuse=d.fuse/\(CS d a l k).keep=d.keep/\(CS d a l k).dead=d.dead/\(CS d a l k).cache.length=d.cache.length+k
 |0=>⟨rfl,rfl,rfl,rfl,rfl⟩
 |k+1=>by
  obtain⟨h1,h2,h3,h4,h5⟩:=Kr d a l k;refine⟨h1,h2,h3,h4,?_⟩;show((CS d a l k).cache++_).length=_;rw[A9,h5];simp;omega
theorem Xm(d:Dk)(a:Nat)(l:List ByteArray)(y:Nat):∀k,AV (CS d a l k) y=if a<=y/\y<a+k then l.getD (y-a) ByteArray.empty else AV d y
 |0=>by rw[A3 (by omega)];rfl
 |k+1=>by
  show AV (CY _ _ _) y=_;rw[Rl,Xm d a l y k];by_cases h:a+k=y
  ·subst h;rw[A4 rfl,A4 (by omega)];congr 1;omega
  ·rw[A3 (by omega)];by_cases h2:a<=y/\y<a+k
   ·rw[A4 h2,A4 (by omega)]
   ·rw[A3 h2,A3 (by omega)]
theorem OZ{d:Dk}(h:Bd d){x:Int}{s:ByteArray}(h0:0<=x)(h1:x<d.kept.length)(hs:s.size=32)(hc:d.cache.length<20000):Bd (CY d x s):=by
 refine⟨h.pos,h.most,?_,h.fuse,h.fmost,h.klen,h.size,λy hy=>?_⟩
 ·show(d.cache++[(x,s)]).length<=_;rw[A9];simp;omega
 ·rcases GA.1 (show y∈d.cache++[(x,s)] from hy) with hy|hy
  ·exact h.puts y hy
  ·rw[B6] at hy;subst hy;exact⟨h0,h1,hs⟩
theorem MD{d:Dk}(h:Bd d){a:Nat}{l:List ByteArray}(hl:∀s∈l,s.size=32):∀k,k<=l.length->a+k<=d.kept.length->d.cache.length+k<=20000->Bd (CS d a l k)
 |0,_,_,_=>h
 |k+1,hk,h1,h2=>by
  have b:=MD (a:=a) h hl k (by omega) (by omega) (by omega);obtain⟨c,_,_,_,e⟩:=Kr d a l k;refine OZ b (by omega) (by rw[c];omega) ?_ (by omega);rw[B9,Bl (show k<l.length by omega),D0];exact hl _ (BA _)
theorem lf{l:List ByteArray}(hl:∀s∈l,s.size=32):∀(c:List (Int×ByteArray)),(∀q∈c,q.2.size=32)->∀s∈Eh l c,s.size=32:=by
 intro c;induction hc:c.length generalizing c with
 |zero=>intro _;rw[FA.1 hc];exact hl
 |succ n g=>
  intro h;obtain⟨a,q,rfl⟩:∃a q,c=a++[q]:=⟨c.dropLast,c.getLast (by intro e;rw[e] at hc;simp at hc),(List.dropLast_concat_getLast _).symm⟩;have b:=g a (by simpa using hc) (λx f=>h x (by simp[f]));have d:=h q (by simp);intro s hs;unfold Eh at hs b;rw[NV] at hs;simp only[K0,List.foldl_nil] at hs;rcases W1 hs with hs|rfl
  ·exact b s hs
  ·exact d
theorem ME{d:Dk}(h:Bd d):Bd (Bu d):=by
 have hl:(Bu d).kept.length=d.kept.length:=Mr _ _;exact⟨by rw[hl];exact h.pos,by rw[hl];exact h.most,by show(0:Nat)<=_;omega,h.fuse,h.fmost,h.klen,lf h.size d.cache λq a=>(h.puts q a).2.2,λq a=>by cases a⟩
theorem MF(d:Dk):(Bu d).kept.length=d.kept.length/\(Bu d).cache=[]/\(Bu d).fuse=d.fuse/\(Bu d).keep=d.keep/\(Bu d).dead=d.dead:=⟨Mr _ _,rfl,rfl,rfl,rfl⟩
theorem Jo{d:Dk}(h:d.cache=[])(y:Nat):AV d y=d.kept.getD y ByteArray.empty:=by unfold AV;rw[h];rfl
theorem RK{g a n:Int}(h:JX g a n=true):(CO g a n).size=32:=by
 unfold CO;rw[A4 h];obtain⟨b,hr⟩:=QF ⟨(Cl [g,a,n]).toArray⟩;have:=Rg (AB ⟨(Cl [g,a,n]).toArray⟩);rw[HH] at this;have:=this _ (by rw[hr];exact Hh ..);simpa[JY] using this
abbrev AG(vs:List Vl):List ByteArray:=CD (AB (Ap vs))
theorem O0(vs:List Vl):∀s∈AG vs,s.size=32:=λs hs=>by
 have:=Rg (AB (Ap vs));rw[HH] at this;simpa using this s hs
theorem O1{vs:List Vl}{m:Nat}(h:(AG vs).length<=m):(Ap vs).size<=32*m:=by
 have h1:=OD (Ap vs);have h2:(AG vs).length=Bw (AB (Ap vs)):=Ob _;unfold Bw at h2;omega
def CZ(d:Dk)(mt a:Int)(vs:List Vl):Dk:=Bu (CS (Bu d) (2+mt*a).toNat (AG vs) (AG vs).length)
def BB(d:Dk)(mt g a:Int)(vs:List Vl):Dk:=Bu (CY (CZ d mt a vs) a (CO g a (Ap vs).size))
structure EF(d:Dk)(mt g a:Int)(vs:List Vl):Prop where
 ok:Bd d
 mt1:1≤mt
 mt2:mt≤1000
 g1:1≤g
 g2:g<1099511627776
 a0:0≤a
 a1:a≤1
 room:2+2*mt≤d.kept.length
 fits:((AG vs).length:Int)≤mt
section
variable {d:Dk} {mt g a:Int} {vs:List Vl}
theorem EF.sup(h:EF d mt g a vs):JX g a (Ap vs).size=true:=by
 have h1:=O1 (vs:=vs) (m:=mt.toNat) (by have:=h.fits;have:=h.mt1;omega);have:=h.mt1;have:=h.mt2;unfold JX;rw[E0];exact⟨h.g1,h.g2,h.a0,h.a1,by omega,by omega⟩
theorem EF.at (h:EF d mt g a vs):∃b:Nat,2+mt*a=(b:Int)/\b+mt.toNat<=d.kept.length/\2<=b/\(a=0->b=2)/\(a=1->(b:Int)=2+mt):=by
 have h1:=h.mt1;have h2:=h.room;have h3:=h.a0;have h4:=h.a1;rcases(show a=0\/a=1 by omega) with rfl|rfl
 ·exact⟨2,by omega,by omega,by omega,λ_=>rfl,λe=>by omega⟩
 ·exact⟨(2+mt).toNat,by omega,by omega,by omega,λe=>by omega,λ_=>by omega⟩
theorem EF.mid(h:EF d mt g a vs):Bd (CZ d mt a vs)/\(CZ d mt a vs).kept.length=d.kept.length/\(CZ d mt a vs).cache=[]:=by
 obtain⟨b,hb,i,_⟩:=h.at;have hf:=h.fits;have h1:=h.mt1;have h2:=h.mt2;obtain⟨c,e,_⟩:=MF d;obtain⟨f,_⟩:=Kr (Bu d) (2+mt*a).toNat (AG vs) (AG vs).length;have hp:Bd (CS (Bu d) (2+mt*a).toNat (AG vs) (AG vs).length):=MD (ME h.ok) (O0 vs) _ (A1 _) (by rw[c,hb,BY];omega) (by rw[e];simp only[C4];omega);exact⟨ME hp,by rw[CZ,(MF _).1,f,c],rfl⟩
theorem EF.fin(h:EF d mt g a vs):Bd (BB d mt g a vs)/\(BB d mt g a vs).kept.length=d.kept.length/\(BB d mt g a vs).cache=[]/\(BB d mt g a vs).fuse=d.fuse/\(BB d mt g a vs).keep=d.keep/\(BB d mt g a vs).dead=d.dead:=by
 obtain⟨m1,m2,b⟩:=h.mid;have h1:=h.a0;have h2:=h.a1;have h3:=h.room;have h4:=h.mt1;have hp:Bd (CY (CZ d mt a vs) a (CO g a (Ap vs).size)):=OZ m1 h1 (by rw[m2];omega) (RK h.sup) (by rw[b];simp);obtain⟨_,c,e,f,_⟩:=Kr (Bu d) (2+mt*a).toNat (AG vs) (AG vs).length;refine⟨ME hp,?_,rfl,c,e,f⟩;rw[BB,(MF _).1];exact m2
theorem EF.read(h:EF d mt g a vs){y:Nat}(hy:y<d.kept.length):AV (BB d mt g a vs) y=if a=(y:Int) then CO g a (Ap vs).size else if(2+mt*a).toNat<=y/\y<(2+mt*a).toNat+(AG vs).length then(AG vs).getD (y-(2+mt*a).toNat) ByteArray.empty else AV d y:=by
 obtain⟨m1,m2,i⟩:=h.mid;obtain⟨b,hb,l,_⟩:=h.at;have h1:=h.a0;have h2:=h.a1;have h3:=h.room;have h4:=h.mt1;have hf:=h.fits;obtain⟨e,j,_⟩:=MF d;obtain⟨k,_⟩:=Kr (Bu d) (2+mt*a).toNat (AG vs) (AG vs).length;have hp:Bd (CS (Bu d) (2+mt*a).toNat (AG vs) (AG vs).length):=MD (ME h.ok) (O0 vs) _ (A1 _) (by rw[e,hb,BY];omega) (by rw[j];simp only[C4];have:=h.mt2;omega);have f:Bd (CY (CZ d mt a vs) a (CO g a (Ap vs).size)):=OZ m1 h1 (by rw[m2];omega) (RK h.sup) (by rw[i];simp);unfold BB;rw[Rm (by show y<(CZ d mt a vs).kept.length;rw[m2];exact hy) (λx c=>(f.puts x c).1),Rl];split
 ·rfl
 ·unfold CZ;rw[Rm (by rw[k,e];exact hy) (λx c=>(hp.puts x c).1),Xm];split
  ·rfl
  ·exact Rm hy (λx c=>(h.ok.puts x c).1)
end
structure Jp(K:List ByteArray)(mt g a:Int)(vs:List Vl):Prop where
 sup:K.getD a.toNat ByteArray.empty=CO g a (Ap vs).size
 ok:JX g a (Ap vs).size=true
 fits:((AG vs).length:Int)≤mt
 pages:∀i,i<(AG vs).length→K.getD ((2+mt*a).toNat+i) ByteArray.empty=(AG vs).getD i ByteArray.empty
def MG(K:List ByteArray)(g a:Int):Prop:=∀x,Dl (K.getD (1-a).toNat ByteArray.empty)=some x->x.1<g
theorem Xn{d:Dk}{mt g a:Int}{vs:List Vl}(h:EF d mt g a vs):Jp (BB d mt g a vs).kept mt g a vs:=by
 obtain⟨k,l,c,_⟩:=h.fin;obtain⟨b,hb,e,f,_⟩:=h.at;have h1:=h.a0;have h2:=h.a1;have h3:=h.room;have h4:=h.mt1;have hf:=h.fits;refine⟨?_,h.sup,h.fits,λi j=>?_⟩
 ·rw[<-Jo c,h.read (by omega),A4 (by omega)]
 ·rw[<-Jo c,h.read (by rw[hb,BY];omega),A3 (by rw[hb,BY];omega),A4 (by omega),VR]
theorem Xo{d:Dk}{mt g a:Int}{vs:List Vl}(h:EF d mt g a vs){y:Nat}(hy:y<d.kept.length)(k:(y:Int)≠a)(l:y<2\/2+2*mt<=(y:Int)\/(a=0/\2+mt<=(y:Int))\/(a=1/\(y:Int)<2+mt)):(BB d mt g a vs).kept.getD y ByteArray.empty=AV d y:=by
 obtain⟨m,n,f,_⟩:=h.fin;obtain⟨b,hb,i,j,c,e⟩:=h.at;have h1:=h.a0;have h2:=h.a1;have h4:=h.mt1;have hf:=h.fits;rw[<-Jo f,h.read hy,A3 (by omega),A3];rw[hb,BY];rcases(show a=0\/a=1 by omega) with rfl|rfl
 ·have:=c rfl;omega
 ·have:=e rfl;omega
theorem lg{K:List ByteArray}{mt g a:Int}{vs:List Vl}(h:Jp K mt g a vs)(b:MG K g a):Hi (K.getD 0 ByteArray.empty) (K.getD 1 ByteArray.empty)=some ((g,a,((Ap vs).size:Int)),a):=by
 have hs:=h.sup;have d:=h.ok;have e:=Wh d;have hb:=M1 (show decide (1<=g/\g<1099511627776/\0<=a/\a<=1/\0<=((Ap vs).size:Int)/\((Ap vs).size:Int)<=1000000)=true from d);unfold MG at b;unfold Hi;rcases(show a=0\/a=1 by omega) with rfl|rfl
 ·rw[show(1-(0:Int)).toNat=1 from rfl] at b;rw[show(0:Int).toNat=0 from rfl] at hs;rw[hs,e];cases c:Dl (K.getD 1 ByteArray.empty) with
  |none=>rfl
  |some x=>have:=b x c;dsimp only;rw[A3 (by omega)]
 ·rw[show(1-(1:Int)).toNat=0 from rfl] at b;rw[show(1:Int).toNat=1 from rfl] at hs;rw[hs,e];cases c:Dl (K.getD 0 ByteArray.empty) with
  |none=>rfl
  |some x=>have:=b x c;dsimp only;rw[A4 (by omega)]
theorem lh{K:List ByteArray}{mt g a:Int}{vs:List Vl}(h:Jp K mt g a vs)(hm:1<=mt)(c:mt<=1000):DE ((List.range mt.toNat).map λi=>K.getD ((2+mt*a).toNat+i) ByteArray.empty)=some (Ap vs):=by
 have hb:=M1 (show decide (1<=g/\g<1099511627776/\0<=a/\a<=1/\0<=((Ap vs).size:Int)/\((Ap vs).size:Int)<=1000000)=true from h.ok);have hf:=h.fits;have e:((List.range mt.toNat).map λi=>K.getD ((2+mt*a).toNat+i) ByteArray.empty)=AG vs++((List.range mt.toNat).map λi=>K.getD ((2+mt*a).toNat+i) ByteArray.empty).drop (AG vs).length:=by
  have b:((List.range mt.toNat).map λi=>K.getD ((2+mt*a).toNat+i) ByteArray.empty).take (AG vs).length=AG vs:=by
   apply Hf
   ·rw[B5,B4,LA];omega
   ·intro i h1 h2;have:=h.pages i h2;rw[H9,HJ,VA,this,B9,Bl h2];rfl
  have:=IR (AG vs).length ((List.range mt.toNat).map λi=>K.getD ((2+mt*a).toNat+i) ByteArray.empty);rw[b] at this;exact this.symm
 rw[e];exact Wg _ _ (by have:=O1 (vs:=vs) (m:=mt.toNat) (by omega);omega)
end
def Gk(R:Nat->Prop)(w:World)(b:Nat)(d:Dk):Prop:=∃e c f,Aa w b [e,c, d.fuse,f, .bool d.dead] 238/\∀a,Ac w a R->By a e c f d
theorem RL{R:Nat->Prop}{w w':World}{b:Nat}{d:Dk}(h:Gk R w b d)(a:Ac w w' (λ_=>False)):Gk R w' b d:=by
 obtain⟨i,g,j,h1,h2⟩:=h;exact⟨i,g,j,a.blk h1 id,λc f=>h2 c ((a.mono λ_ _ e=>e.elim).trans f)⟩
theorem RM{R:Nat->Prop}{w w':World}{b:Nat}{d:Dk}(h:Gk R w b d)(hb:Below w w w'):Gk R w' b d:=RL h (Ai hb)
theorem Xp{n0:Nat}{w:World}{l j m:Value}{d:Dk}(h:Ez w n0 l j m d){b:World}{R:Nat->Prop}(a:Ac w b R)(hr:∀k,R k->k<n0):By b l j m d:=by
 obtain⟨c,f,i⟩:=h;exact MC (n0:=n0) ⟨a.owns c (λg hb e=>by have:=Ah c g hb;have:=hr g e;omega),a.owns f (λg hb e=>by have:=Ah f g hb;have:=hr g e;omega),a.owns i (λg hb e=>by have:=Ah i g hb;have:=hr g e;omega)⟩
theorem Xq(R:Nat->Prop)(b:Nat)(u v x y z n m o:Value)(d:Dk)(w:World)(a:Aa w b [u,v,x,y,z] 238)(r:R b)(i:∀c,Ac w c R->By c n m o d):
 Calls prog 160 #[.pointer (some ⟨b,0,none⟩),Bm n m o d, .int .i64 0] w λe w'=>e= .returned (.tuple #[])/\Gk R w' b d/\Ac w w' (λk=>k=b):=by
 have f:=i w (AW _ _);obtain⟨a1,c1,rfl⟩:=AK f.kept;obtain⟨g,c2,rfl⟩:=AK f.cache;obtain⟨h,c3,rfl⟩:=AK f.keep;have A:=a.lt;obtain⟨f0,f1,f2,f3,f4⟩:=a.five;obtain⟨B,C,D,E,F⟩:=a.five';have hp:=a.put5 (.slice a1 d.kept.length c1) (.slice g d.cache.length c2) (.int .i64 d.fuse) (.slice h d.keep.length c3) (.bool d.dead);have j:=A0 hp;clear f a hp;have p:=A0 i;clear i;go_enter func160,ntmps160;go_wp2_with fail
 go_end0
 have hb:=j.out.1;have s:=j.out.2;generalize ((((w.setCell ⟨b,0,none⟩ (.slice a1 d.kept.length c1)).setCell ⟨b,1,none⟩ (.slice g d.cache.length c2)).setCell ⟨b,2,none⟩ (.int .i64 d.fuse)).setCell ⟨b,3,none⟩ (.slice h d.keep.length c3)).setCell ⟨b,4,none⟩ (.bool d.dead)=q at*;have l:=s.trans (AZ q (.cells #[.slice a1 d.kept.length c1, .slice g d.cache.length c2, d.fuse, .slice h d.keep.length c3, .bool d.dead] 27) (λk=>k=b));exact⟨rfl,⟨_,_,_,hb.below ((A2 _ _).alloc (A1 _) _),λc t=>p c ((l.mono λ_ _ e=>e▸r).trans t)⟩,l⟩
theorem RN(R t:Nat->Prop)(b:Nat)(d:Dk)(w:World)(h:Gk t w b d)(A:R b)(z:∀k,R k->k<w.heap.size)(n:Bd d)(B:d.keep.length<=10000000)(hd:d.dead=false):
 Calls prog 73 #[.pointer (some ⟨b,0,none⟩)] w λe w'=>e= .returned (.tuple #[])/\Gk R w' b (Bu d)/\Ac w w' (λk=>k=b):=by
 obtain⟨D,C,E,a,i⟩:=h;have J:=a.lt;obtain⟨f0,f1,f2,f3,f4⟩:=a.five;have m:=iV D C E d w (i w (AW _ _)) n B hd;obtain⟨g,H⟩:=Hx2 a hd;clear a i n hd;go_enter func73,ntmps73;go_wp2_with fail;refine m.mono ?_;rintro e F ⟨u,x,v,y,rfl,l,hb⟩;have f:=A0 hb;have o:=Xq R b _ _ _ _ _ (.slice u d.kept.length x) (.slice none 0 0) (.slice v d.keep.length y) (Bu d) F (g.below hb) A (λI c=>Xp l c λk e=>by have:=z k e;omega);clear hb l m f0 f1 f2 f3 f4;generalize j:Bu d=G at*;have q:=A0 j;clear j;go_wp2_with fail;refine o.mono ?_;rintro e K ⟨rfl,p,c⟩;obtain⟨s,r⟩:=Hx2 p ((Ai f).mono (R':=λk=>k=b) (λ_ _ e=>e.elim)|>.trans c);clear p c o f g;go_wp2_with fail
 go_end0
 exact⟨rfl,by rw[q.out];exact s,r⟩
theorem RO{w:World}{a:Option Addr}{n c:Nat}{l:List ByteArray}(h:Ef w (.slice a n c) l){k:Nat}(hk:k<l.length):∃b off,a=some ⟨b,off,none⟩/\b<w.heap.size/\w.cell? ⟨b,off+k,none⟩=some (.string l[k]):=by
 obtain⟨f,cap,e,hl,g,hc⟩:=h;injection e with h1 h2 h3;subst h1;rcases hc with rfl|⟨b,off,rfl,hb,d⟩
 ·simp at hk
 ·exact⟨b,off,rfl,hb,by simpa using d k hk 0 (by omega)⟩
theorem Xr(R:Nat->Prop)(b:Nat)(d:Dk)(a:Nat)(L:Value)(l:List ByteArray)(w:World)(h:Gk R w b d)(a1:R b)(a0:∀k,R k->k<w.heap.size)(n:∀m,Ac w m (λk=>k=b)->Ef m L l)(hs:∀s∈l,s.size=32)(q:Bd d)(a3:d.keep.length<=10000000)(hf:d.fuse= -1)(hd:d.dead=false)(ha:a+l.length<=d.kept.length)(hc:d.cache.length+l.length<=20000):
 Calls prog 74 #[.pointer (some ⟨b,0,none⟩), a,L] w λe w'=>e= .returned (.tuple #[])/\Gk R w' b (CS d a l l.length)/\Ac w w' (λk=>k=b):=by
 obtain⟨M,Q⟩:=Hx2 (λi=>Kr d a l i) (λi h1 h2 h3=>MD q (a:=a) hs i h1 h2 h3);have af:=q.most;obtain⟨a9,cl,rfl⟩:=AK (n w (AW _ _));obtain⟨S,z⟩:=Hx2 n h;clear h q n;go_enter func74,ntmps74;go_wp2_with fail;go_loopw [10] (λt wr=>∃(i:Nat),t= .int .i64 (i:Int)/\i<=l.length/\Gk R wr b (CS d a l i)/\Ac w wr (λk=>k=b)) (λt _=>l.length-(intOf t).toNat)
 case atStart=>exact⟨0,rfl,A7 _,z,AW _ _⟩
 case round=>
  clear z;generalize wr=u at*;obtain⟨i,rfl,ac,o,c⟩:=hrel;obtain⟨G,H,I,J,K⟩:=M i;by_cases p:i<l.length
  ·obtain⟨bl,off,a2,ab,Z⟩:=RO (S u c) p;subst a2;have a4:=hs l[i] (BA p);have O:Hid (CY (CS d a l i) ((a:Int)+(i:Int)) l[i]=CS d a l (i+1)):=by
    unfold Hid;rw[CS,B9,Bl p];simp
   generalize l[i]=s at*;obtain⟨a6,a5,a7,g,C⟩:=o;have ad:=g.lt;have r:=Wt a6 a5 a7 (CS d a l i) ((a:Int)+(i:Int)) s u (C u (AW _ _)) (Q i (by omega) (by omega) (by omega)) (by rw[I];exact a3) (by rw[H];exact hf) (by rw[J];exact hd) (by omega) (by rw[G];omega) a4 (by rw[K];omega);rw[O.out] at r;obtain⟨f0,f1,f2,f3,f4⟩:=g.five;have aa:(i:Int)<(l.length:Int):=by omega
   obtain⟨A,f⟩:=Hx2 g c;have ag:IntKind.i64.wrap ((a:Int)+(i:Int))=(a:Int)+(i:Int):=C0 _ (by omega);clear g C c G H I J K;generalize CS d a l i=v at*;generalize B:CS d a l (i+1)=x at*;have N:=A0 B;clear B;go_wp2_with fail;refine r.mono ?_;rintro e a8 ⟨U,X,T,W,V,Y,rfl,D,hb⟩;have y:=A0 hb;have E:=Xq R b _ _ _ _ _ (.slice U v.kept.length X) (.slice T x.cache.length W) (.slice V v.keep.length Y) x a8 (A.below hb) a1 (λm c=>Xp D c λk e=>by have:=a0 k e;have:=f.size;omega);clear hb D r f0 f1 f2 f3 f4 Z;go_wp2_with fail;refine E.mono ?_;rintro e ah ⟨rfl,F,c⟩;obtain⟨j,P⟩:=Hx2 F (f.trans (((Ai y).mono (R':=λk=>k=b) (λ_ _ e=>e.elim)).trans c));clear F c E y A f;go_wp2_with fail;exact⟨⟨i+1,rfl,by omega,by rw[N.out];exact j,P⟩,by simp[intOf];omega⟩
  ·obtain rfl:i=l.length:=by omega
   have hd:decide ((l.length:Int)<(l.length:Int))=false:=A6 (by omega);obtain⟨j,f⟩:=Hx2 o c;clear o c;go_wp2_with fail
   go_end0
   exact⟨rfl,j,f⟩
theorem li{vs:List Vl}(h:∀v∈vs,Gv v.1 v.2.1 v.2.2):(Cv vs).length<=2000000*vs.length:=by
 induction vs with
 |nil=>simp[Cv]
 |cons v vs b=>
  have h1:=b λx a=>h x (by simp[a]);have h2:=Ri (Cm v);have h3:=Mp v;have h4:=(h v (by simp)).len;rw[OF,A9,BV];omega
def Jq(v:Vl)(j:Nat):List Int:=v.1::v.2.1::((v.2.2).take j).flatMap λp=>[p.1,p.2]
theorem ll(v:Vl){j:Nat}(h:j<(v.2.2).length):Jq v (j+1)=Jq v j++[(v.2.2)[j].1,(v.2.2)[j].2]:=by
 unfold Jq;rw[B1 h,HB];simp
theorem lm(v:Vl):Jq v (v.2.2).length=Cm v:=by
 unfold Jq Cm;rw[E2 (A1 _)]
theorem Xs(v:Value)(vs:List Vl)(w:World)(O:CU w v vs)(M:D5 vs):
 Calls prog 53 #[v] w λe w'=>e= .returned (.string (Ap vs))/\Below w w w':=by
 obtain⟨bK,aj⟩:=Hx2 O M;have hl:=M.len;obtain⟨a0,c0,rfl⟩:=Fy O;obtain⟨i0,bV,c6,c7,c8⟩:=BW WW;have aT:=LF (.slice a0 vs.length c0) vs w O M;have a5:=λQ:World=>NZ vs.length Q (by omega) (by omega);simp only[BY] at a5;have ch:=Jg vs.length;clear O M;go_enter func53,ntmps53;go_wp2_with fail;refine aT.mono ?_;rintro e d ⟨rfl,aL⟩;have au:=Lib.fresh_isBuilder 195 5 d;have V:=A0 aL;clear aT aL;go_wp2_with fail;refine(a5 _).mono ?_;rintro e bl ⟨rfl,a1⟩;have ag:=A0 (Jh au a1);have W:Hid (Below d d bl):=((A2 _ _).alloc (A1 _) _).trans (a1.mono (by simp));clear a5 a1 au;go_wp2_with fail;refine(Me d.heap.size d.heap.size [] (Ee vs.length) bl ag (by simp;have:=JS vs.length;omega) W.size).mono ?_;rintro e bp ⟨rfl,av,B⟩;have ah:Hid (Fi d.heap.size d.heap.size (Lib.byteCells (Bh vs.length++Cv (vs.take 0))) bp):=by unfold Hid;simp only[P7];rw[show Cv []=[] from rfl,E5];exact av
 have H:=A0 (W.trans B);clear ag W av B;go_wp2_with fail;go_loopw [18] (λt wr=>∃k:Nat,t= .int .i64 k/\k<=vs.length/\Hid (Fi d.heap.size d.heap.size (Lib.byteCells (Bh vs.length++Cv (vs.take k))) wr)/\Below d d wr) (λt _=>vs.length-(intOf t).toNat)
 case atStart=>exact⟨0,rfl,A7 _,ah,H⟩
 case round=>
  clear ah H;generalize wr=m at*;obtain⟨k,rfl,hk,R,hb⟩:=hrel;have U:=A0 hb;have b1:=V.size;by_cases a4:k<vs.length
  ·obtain⟨b,off,⟨⟨b9,b6,b3⟩,⟨bb,b7,b4⟩,⟨bc,b8,b5⟩⟩,D,cb,A,I,ao,ap,aq,a7⟩:=GX (EJ bK (V.trans (hb.mono b1))) a4;subst D;have P:=aj.ok vs[k] (BA a4);have bx:Hid (vs.take (k+1)=vs.take k++[vs[k]]):=B1 a4;have b0:(Cv (vs.take k)).length<=2000000*64:=by
    have h1:=li (vs:=vs.take k) λx ac=>aj.ok x (List.mem_of_mem_take ac);have h2:(vs.take k).length<=k:=ID _ _;omega
   obtain⟨bL,bM,HNode⟩:=Hx3 b0 P a7;have a9:=P.len;have ab:=λ(Q:World) (ac:Below m m Q)=>KE a7 0 vs[k].2.1 (JF P (E4 _) (E4 _)) Q ac;generalize c5:vs[k]=y at*;obtain⟨h,l,f⟩:=y;dsimp only at A I ab a9;dsimp only[sv] at ao ap aq;have bR:(k:Int)<(vs.length:Int):=by omega
   have g1:(0:Int)<=(k:Int):=by omega
   have c3:=hb.size;have HWalk:=A0 ab;clear hb c5 P a7 b0 ab;go_wp2_with fail;have D:=(A2 m.heap.size m).alloc (A1 _) (.cells #[h, l, .slice b9 b6 b3, .slice bb b7 b4, .slice bc b8 b5] 78);have E:=D.alloc D.size (.cells #[h, l] 3);have a6:=Aa.new (m.alloc (.cells #[h, l, .slice b9 b6 b3, .slice bb b7 b4, .slice bc b8 b5] 78)) [h, l] 3;simp only[Bx] at a6;have aX:=MA a6 (base:=m.heap.size) (by omega) (by simp[maxLen]);refine(HWalk _ E).mono ?_;rintro e co ⟨bO,bP,rfl,o,a2⟩;obtain⟨ak,HRow4,z⟩:=Hx3 (E.trans (a2.mono E.size)) (Ag aX a2) (Hm o E.size);have cl:=a9;clear D E a6 aX a2 o HWalk A I ao ap aq a9;generalize ay:f.length=r at*;have T:=A0 ay;clear ay;go_wp2_with fail;go_loopw [6,33] (λc9 t ad=>∃(j n:Nat) (a:Option Addr) (c:Nat),t= .int .i64 (j:Int)/\c9= .slice a n c/\j<=r/\Hid (n=2+2*j)/\ad.ownsRow m.heap.size 3 1 (.slice a n c) n (Af Lz (Jq (h,l,f) j))/\
    ad.ownsRow m.heap.size 113 2 (.slice bO r bP) r (Af Cz f)/\Below m m ad) (λ_ t _=>r-(intOf t).toNat)
   case atStart=>
    refine⟨0,2,some ⟨m+1,0,none⟩,2,rfl,rfl,A7 _,rfl,?_,z,ak⟩;exact HRow4
   case round=>
    clear HRow4 z ak;obtain⟨j,n,a,c,rfl,rfl,cg,ai,N,o,K⟩:=hrel;obtain⟨G,z,S⟩:=Hx3 N o K;have ar:=K.size;by_cases c2:j<r
    ·have L:j<f.length:=by rw[T.out];exact c2
     obtain⟨q,rfl,cj⟩:=EM o (by omega);have ck:=AM o q rfl;have aC:=DB DL f j L 0 (by omega);have aF:=DB DL f j L 1 (by omega);have J:=ll (h,l,f) (j:=j) L;dsimp only at J;generalize f[j]=p at*;obtain⟨pk,s⟩:=p;dsimp only at J;have A:=(BQ o (aC.trans (show _=some (Value.int .i64 pk) from rfl))).1;have I:=(BQ o (aF.trans (show _=some (Value.int .i64 s) from rfl))).1;simp only[Hb] at A;have bw:=A0 J;have ci:n<=1000000:=by have:=ai.out;omega
     have bR:(j:Int)<(r:Int):=by omega
     have g1:(0:Int)<=(j:Int):=by omega
     clear aC aF J N o K L;go_wp2_with (at_builtin;refine F0 _ rfl _ _ 73 rfl m.heap.size 3 i0 _ 1 8 underlying73 bV c6 c7 c8 rfl (by decide) (.slice a n c) n _ rfl ((G.alloc _).alloc _) ⟨wr+1,0,none⟩ 2 2 [pk, s] rfl rfl (λi u c4=>by rw[Bo,B2,show wr.heap.size+1=(wr.alloc (.cells #[pk, s] 113)).heap.size from(Bx _ _).symm,G7];simpa using c4) (by simp[Value.oneCell']) (by simp[maxLen];omega) (by omega) (by simp;omega) ?_)
     intro cm af a8 a3 _ c1;have aK:=Mq ((z.alloc (.cells #[pk, s] 113)).alloc (.cells #[pk, s] 3)) a3 (λg bT=>Cn z G (by decide) g bT);have C:=((S.alloc ar (.cells #[pk, s] 113)).alloc (by rw[Bx];omega) (.cells #[pk, s] 3)).grown a3 (by rw[Bx,Bx];omega) (λb hb=>Ah G b hb);obtain⟨al,an,rfl,_,_⟩:=Aw a8;have aV:af.ownsRow m.heap.size 3 1 (.slice al (n+2) an) (n+2) (Af Lz (Jq (h,l,f) (j+1))):=by
      rw[bw.out,JA];exact a8
     obtain⟨bt,bu,F⟩:=Hx3 aV aK C;have bs:Hid (n+2=2+2*(j+1)):=by have:=ai.out;unfold Hid;omega
     clear a8 a3 c1 aK C aV G z S A I;go_wp2_with fail;exact⟨⟨j+1,n+2,al,an,rfl,rfl,by omega,bs,bt,bu,F⟩,by simp[intOf];omega⟩
    ·obtain rfl:j=r:=by omega
     have hd:decide ((j:Int)<(j:Int))=false:=A6 (by omega);have aU:Jq (h,l,f) j=Cm (h,l,f):=by
      rw[<-lm (h,l,f)];congr 1;rw[<-T.out]
     have aa:=(CJ KD N).1;rw[aU] at aa;have bX:(Cm (h,l,f)).length<=1000000:=by
      have:=Mp (h,l,f);have h2:=T.out;dsimp only at this;omega
     have b2:=UW (.slice a n c) (Cm (h,l,f)) wr aa bX (Wi bM);have cc:=Ri (Cm (h,l,f));clear N o K aU aa;go_wp2_with fail;refine b2.mono ?_;rintro e af ⟨rfl,C⟩;have X:=A0 (S.trans (C.mono ar));obtain⟨F,Y⟩:=Hx2 (Jh R X) (U.trans (X.mono c3));clear b2 C R;go_wp2_with fail;refine(Me d.heap.size d.heap.size _ ⟨(Cl (Cm (h,l,f))).toArray⟩ af F (by have:=bL.out;rw[Lib.byteCells_length,A9];simp only[ByteArray.size,D2];omega) Y.size).mono ?_;rintro e ca ⟨rfl,ax,aM⟩;have bq:Hid (Fi d.heap.size d.heap.size (Lib.byteCells (Bh vs.length++Cv (vs.take (k+1)))) ca):=by
      unfold Hid;rw[bx.out,Wk,<-C1,<-Qy];exact ax
     have bN:=A0 (Y.trans aM);clear ax aM F Y X;go_wp2_with fail;exact⟨⟨k+1,by go_num,by omega,bq,bN⟩,by simp[intOf];omega⟩
  ·obtain rfl:k=vs.length:=by omega
   have hd:decide ((vs.length:Int)<(vs.length:Int))=false:=A6 (by omega);have Z:=R.out;rw[D4] at Z;have aP:=Tryz.Builder_String_any d.heap.size d.heap.size (Kf vs) m Z U.size;clear Z hb;go_wp2_with fail;refine aP.mono ?_;rintro e bp ⟨rfl,B⟩;have H:=A0 (U.trans B);clear B aP;go_wp2_with fail;go_ret;exact⟨rfl,V.trans (H.mono b1)⟩
theorem O2(m n:Int)(w:World)(h0:0<=m)(h1:m<=1000)(h2:0<=n)(h3:n<=2):Calls prog 32 #[m, n] w λe w'=>e= .returned (.int .i64 (2+m*n))/\w'=w:=by
 have a:IntKind.i64.wrap (m*n)=m*n/\IntKind.i64.wrap (2+m*n)=2+m*n:=by
  rcases(show n=0\/n=1\/n=2 by omega) with rfl|rfl|rfl<;>exact⟨C0 _ (by omega),C0 _ (by omega)⟩
 obtain⟨b,c⟩:=a;go_enter func32,ntmps32;go_wp2_with fail;go_ret;exact⟨by simp,rfl⟩
theorem lq(d:Dk)(mt g a:Int)(vs:List Vl)(hk:EF d mt g a vs)(D:d.keep.length<=10000000)(hf:d.fuse= -1)(hd:d.dead=false)(p q b:Nat)(t u v x y z A:Value)(w:World)
 (bp:Aa w p [t,u,v,x,y, mt, g, a,z,A] 31)(bs:Aa w q [.string (Ap vs)] 9)(ac:Gk (λk=>k=b) w b d)(h1:b≠p)(h2:b≠q):
 Calls prog 72 #[.pointer (some ⟨b,0,none⟩), .pointer (some ⟨p,0,none⟩), .pointer (some ⟨q,0,none⟩)] w λe w'=>e= .returned (.tuple #[])/\Gk (λk=>k<w.heap.size) w' b (BB d mt g a vs)/\Ac w w' (λk=>k=b):=by
 have N:b<w.heap.size:=by obtain⟨_,_,_,ck,_⟩:=ac;exact ck.lt
 have c9:Hid (∀k,(λk=>k<w.heap.size) k->k<w.heap.size):=λ_ h=>h;have bK:=RN (λk=>k<w.heap.size) _ b d w ac N c9 hk.ok D hd;obtain⟨aT,aX⟩:=Hx2 bp bs;obtain⟨C,bu,cF,cK,_⟩:=hk.at;have cp:=hk.mt1;have bM:=hk.mt2;have bt:=hk.a0;have cl:=hk.a1;have bw:=λj=>O2 mt a j (by omega) bM bt (by omega);rw[bu] at bw;have cr:(Ap vs).size<=1000000:=by have:=O1 (vs:=vs) (m:=mt.toNat) (by have:=hk.fits;omega);omega
 have bN:=λj=>N5 (Ap vs) j cr;obtain⟨an,ao,ap,X,Y⟩:=MF d;obtain⟨cs,c2,aq,ar,ct⟩:=Kr (Bu d) C (AG vs) (AG vs).length;obtain⟨m1,m2,al⟩:=hk.mid;have ah:=ME hk.ok;have cm:=hk.fits;have bO:Bd (CS (Bu d) C (AG vs) (AG vs).length):=MD ah (O0 vs) _ (A1 _) (by rw[an];omega) (by rw[ao];simp only[C4];omega);have r:=λ(j:World) (au:Value) (hs:w<=j.heap.size) B aa=>Xr (λk=>k<w.heap.size) b (Bu d) C au (AG vs) j B N (λk e=>B3 e hs) aa (O0 vs) ah (by rw[X];exact D) (by rw[ap];exact hf) (by rw[Y];exact hd) (by rw[an];omega) (by rw[ao];simp only[C4];omega);have af:=λ(j:World) (hs:w<=j.heap.size) B=>RN (λk=>k<w.heap.size) (λk=>k<w.heap.size) b (CS (Bu d) C (AG vs) (AG vs).length) j B N (λk e=>B3 e hs) bO (by rw[aq,X];exact D) (by rw[ar,Y];exact hd);have a9:Bu (CS (Bu d) C (AG vs) (AG vs).length)=CZ d mt a vs:=by unfold CZ;rw[bu,BY]
 rw[a9] at af;have ak:=RK hk.sup;obtain⟨n,ai⟩:∃n:Nat,a=(n:Int):=⟨a.toNat,by omega⟩;have E:(CZ d mt a vs).keep=d.keep/\(CZ d mt a vs).fuse=d.fuse/\(CZ d mt a vs).dead=d.dead:=by rw[<-a9];exact⟨aq.trans X,c2.trans ap,ar.trans Y⟩
 have W:=λ(j:World) (au:Value) (hs:w<=j.heap.size) B aa=>Xr (λk=>k<w.heap.size) b (CZ d mt a vs) n au [CO g a (Ap vs).size] j B N (λk e=>B3 e hs) aa (λs hs=>by rw[B6.1 hs];exact ak) m1 (by rw[E.1];exact D) (by rw[E.2.1];exact hf) (by rw[E.2.2];exact hd) (by rw[m2];have:=hk.room;simp only[N8];omega) (by rw[al];simp);have bc:CS (CZ d mt a vs) n [CO g a (Ap vs).size] [CO g a (Ap vs).size].length=CY (CZ d mt a vs) a (CO g a (Ap vs).size):=by rw[ai];rfl
 rw[bc] at W;have bP:Bd (CY (CZ d mt a vs) a (CO g a (Ap vs).size)):=OZ m1 (by omega) (by rw[m2];have:=hk.room;omega) ak (by rw[al];simp);have ag:=λ(j:World) (hs:w<=j.heap.size) B=>RN (λk=>k<w.heap.size) (λk=>k<w.heap.size) b (CY (CZ d mt a vs) a (CO g a (Ap vs).size)) j B N (λk e=>B3 e hs) bP (by show(CZ d mt a vs).keep.length<=_;rw[E.1];exact D) (by show(CZ d mt a vs).dead=false;rw[E.2.2];exact hd);have bl:Bu (CY (CZ d mt a vs) a (CO g a (Ap vs).size))=BB d mt g a vs:=rfl;rw[bl] at ag;have bR:=λj=>Vc g a ((Ap vs).size:Int) j;rw[<-ai] at W;obtain⟨c6,c7,c3,c8,c4,ca⟩:=Hx6 bN r af W ag bR;clear bp bs ac hk hf hd D a9 bc bl bN r af W ag bR an ao ap X Y cs c2 aq ar ct m1 m2 al E bO bP ah cm ak ai cp bM bt cl;generalize BB d mt g a vs=cC at*;generalize CY (CZ d mt a vs) a (CO g a (Ap vs).size)=cz at*;generalize CZ d mt a vs=cy at*;generalize CS (Bu d) C (AG vs) (AG vs).length=cx at*;generalize Bu d=cw at*;generalize CO g a (Ap vs).size=G at*;go_enter func72,ntmps72;go_wp2_with fail;refine bK.mono ?_;rintro e av ⟨rfl,bT,R⟩;obtain⟨b2,aL,aU,b0⟩:=Hx4 bT R (R.blk aT (λe=>h1 e.symm)) (R.blk aX (λe=>h2 e.symm));clear bT R bK aT aX;go_wp2_with fail;refine BM (S:=λI=>Aa I p [t,u,v,x,y, mt, g, a,z,A] 31/\Aa I q [.string (Ap vs)] 9) (by kernel_rfl) 9 rfl ⟨aU.drew,b0.drew⟩ (λc=>?_);obtain⟨b3,a2⟩:=Hx2 (RL b2 (Lx av _)) (aL.trans (Lx av _));clear b2 aL aU b0;generalize av.drew=cc at*;refine Ab 0 c ?_;refine Ab 1 c ?_;refine Ab 2 c ?_ (hy:=by intro w' l;have F:=l.1.cell 5 rfl;go_simp;with_reducible rfl);refine Px ?_;refine Ab 3 c ?_;refine Ab 4 c ?_ (hy:=by intro w' l;have F:=l.1.cell 7 rfl;go_simp;with_reducible rfl);refine Px ?_;refine Ab 6 c ?_ (hy:=by intro w' l;have F:=l.2.cell 0 rfl;go_simp;with_reducible rfl);refine Px ?_;refine Ao 5 (λK i=>?_);go_simp;refine(bw cc).mono ?_;rintro e cu ⟨rfl,rfl⟩;refine i _ _ c (λ_=>?_);clear i K;refine Px ?_;refine Ao 7 (λK i=>?_);go_simp;refine(c6 cu).mono ?_;rintro e ax ⟨ci,cj,rfl,aj,J⟩;have O:Aa ax p [t,u,v,x,y, mt, g, a,z,A] 31/\Aa ax q [.string (Ap vs)] 9:=⟨c.1.below J,c.2.below J⟩;obtain⟨b4,a3⟩:=Hx2 (RM b3 J) (a2.trans ((Ai J).mono (λ_ _ e=>e.elim)));have r:=c7 ax (.slice ci (CD (AB (Ap vs))).length cj) a3.size b4 (λch ad=>by
  have:=ad.owns aj (λg co e=>by have:=Ah aj g co;have:=a2.size;omega);exact(Cr (f:=Value.string) this).1)
 have H:=A0 r;clear aj J r c b3 a2;refine i _ _ O (λ_=>?_);clear i K;refine Px ?_;refine Ao 8 (λK i=>?_);go_simp;refine H.mono ?_;rintro e ay ⟨rfl,bX,T⟩;have ab:Aa ay p [t,u,v,x,y, mt, g, a,z,A] 31/\Aa ay q [.string (Ap vs)] 9:=⟨T.blk O.1 (λe=>h1 e.symm),T.blk O.2 (λe=>h2 e.symm)⟩;obtain⟨b5,a4⟩:=Hx2 bX (a3.trans T);clear bX T H b4 a3;refine i _ _ ab (λ_=>?_);clear i K O;refine Px ?_;refine Bc (by kernel_rfl) ?_ _;obtain⟨a8,aF⟩:=Hx2 ab (c3 ay a4.size b5);clear ab;go_wp2_with fail;refine aF.mono ?_;rintro e aC ⟨rfl,c0,U⟩;obtain⟨b6,aM,aV,b1⟩:=Hx4 c0 (a4.trans U) (U.blk a8.out.1 (λe=>h1 e.symm)) (U.blk a8.out.2 (λe=>h2 e.symm));clear c0 U aF b5 a4 a8;go_wp2_with fail;refine BM (S:=λI=>Aa I p [t,u,v,x,y, mt, g, a,z,A] 31/\Aa I q [.string (Ap vs)] 9) (by kernel_rfl) 13 rfl ⟨aV.drew,b1.drew⟩ (λc=>?_);obtain⟨b7,aP⟩:=Hx2 (RL b6 (Lx aC _)) (aM.trans (Lx aC _));clear b6 aM aV b1;generalize aC.drew=cg at*;refine Ab 0 c ?_;refine Ab 1 c ?_;refine Ab 2 c ?_ (hy:=by intro w' l;have F:=l.1.cell 7 rfl;go_simp;with_reducible rfl);refine Px ?_;refine Ab 3 c ?_;refine Ab 4 c ?_ (hy:=by intro w' l;have F:=l.1.cell 6 rfl;go_simp;with_reducible rfl);refine Px ?_;refine Ab 5 c ?_;refine Ab 6 c ?_ (hy:=by intro w' l;have F:=l.1.cell 7 rfl;go_simp;with_reducible rfl);refine Px ?_;refine Ab 7 c ?_ (hy:=by intro w' l;have F:=l.2.cell 0 rfl;go_simp;with_reducible rfl);refine Px ?_;refine Ab 8 c ?_;refine Px ?_;refine Ab 9 c ?_;refine Px ?_;refine Ao 10 (λK i=>?_);go_simp;refine(ca cg).mono ?_;rintro e o ⟨rfl,L⟩;have P:Aa o p [t,u,v,x,y, mt, g, a,z,A] 31/\Aa o q [.string (Ap vs)] 9:=⟨c.1.below L,c.2.below L⟩;obtain⟨b8,a5⟩:=Hx2 (RM b7 L) (aP.trans ((Ai L).mono (λ_ _ e=>e.elim)));clear L c b7 aP;refine i _ _ P (λ_=>?_);clear i K;refine Px ?_;refine Ao 11 (λK i=>?_);go_simp;have bx:=Aa.new o [.string G] 9;have M:Below o o (o.alloc (.cells [Value.string G].toArray 9)):=(A2 _ o).alloc (A1 _) _;have Q:Aa (o.alloc (.cells [Value.string G].toArray 9)) p [t,u,v,x,y, mt, g, a,z,A] 31/\Aa (o.alloc (.cells [Value.string G].toArray 9)) q [.string (Ap vs)] 9:=⟨P.1.below M,P.2.below M⟩;obtain⟨b9,a6⟩:=Hx2 (RM b8 M) (a5.trans ((Ai M).mono (λ_ _ e=>e.elim)));have cq:=a5.size;have r:=c8 _ (.slice (some ⟨o,0,none⟩) 1 1) a6.size b9 (λch ad=>(Cr (f:=Value.string) (xs:=[G]) (MA (base:=0) (ad.blk bx (by omega)) (A7 _) (by simp[maxLen]))).1);have H:=A0 r;clear bx M r P b8 a5 cq;generalize o.alloc (.cells [Value.string G].toArray 9)=cv at*;refine i _ cv Q (λ_=>?_);clear i K;refine Px ?_;refine Ao 12 (λK i=>?_);go_simp;refine H.mono ?_;rintro e Z ⟨rfl,c1,V⟩;obtain⟨bb,a7⟩:=Hx2 c1 (a6.trans V);have bq:Aa Z p [t,u,v,x,y, mt, g, a,z,A] 31/\Aa Z q [.string (Ap vs)] 9:=⟨V.blk Q.1 (λe=>h1 e.symm),V.blk Q.2 (λe=>h2 e.symm)⟩;clear c1 V H b9 a6 Q;refine i _ Z bq (λ_=>?_);clear i K bq;refine Px ?_;refine Bc (by kernel_rfl) ?_ _;have aK:=A0 (c4 Z a7.size bb);go_wp2_with fail;refine aK.mono ?_;rintro e cL ⟨rfl,bV,bL⟩;obtain⟨cb,c5⟩:=Hx2 bV (a7.trans bL);clear bV bL aK bb a7;go_wp2_with fail
 go_end0
 exact⟨rfl,cb,c5⟩
theorem lr(a b c:Addr)(w:World):
 CallsD prog 159 #[.pointer (some a), .pointer (some b), .pointer (some c)] .returning w λe h w'=>e= .returned (.tuple #[])/\h= .returning/\w'=w:=by
 refine callsD_of_wpS func159 rfl λf cs g=>?_;apply wpS_seq;apply wpS_region;simp[wpOpsS,go_sem,recoverD,g,ntmps159,Exit.thenS];have d:(#[Value.pointer (some a),Value.pointer (some b),Value.pointer (some c)]++(Array.replicate 15 undef).setIfInBounds 3 Value.nilIface)=#[Value.pointer (some a),Value.pointer (some b),Value.pointer (some c),undef,undef,undef,Value.nilIface,undef,undef,undef,undef,undef,undef,undef,undef,undef,undef,undef]:=rfl;rw[d];clear d;refine wpS_of_wp ?_;go_wp2_with fail;cases f
 simp_all[bodyPostS,results,results159]
theorem lu(d b:Dk)(mt g a:Int)(vs:List Vl)(hk:EF d mt g a vs)(aF:d.keep.length<=10000000)(hf:d.fuse= -1)(hd:d.dead=false)(Y:BB d mt g a vs=b)(l j m:Value)(z A:Nat)(ab ac ad af ag ah ai:Value)(w:World)
 (E:Aa w z [ab,ac,ad,af,ag, mt, g, a,ah,ai] 31)(F:Aa w A [.string (Ap vs)] 9)(X:By w l j m d):
 Calls prog 71 #[Bm l j m d, .func (.func 72) #[] #[.pointer (some ⟨z,0,none⟩), .pointer (some ⟨A,0,none⟩)]] w λe w'=>∃a9 a8 aa,e= .returned (.tuple #[Bm a9 a8 aa b, .int .i64 0])/\(∀n,Ac w' n (λk=>k<w.heap.size)->By n a9 a8 aa b)/\Below w w w':=by
 have b3:=E.lt;have b4:=F.lt;have b5:∀(W:Fn) (first cap:Array Value) (w:World),(Instr.makeFunc W first cap).run prog w= .ok (.func W first cap) w:=λ_ _ _ _=>rfl;have b6:=DQ func72 (by kernel_rfl) rfl;obtain⟨b0,b1,b2,o,p,h,u⟩:=RJ w [l,j, d.fuse,m, .bool d.dead] [.slice none 0 0, .slice none 0 0, .int .i64 0, .slice none 0 0, .bool false] [.int .i64 0] [l,j, d.fuse,m, .bool d.dead] [.pointer (some ⟨w+1+1+1,0,none⟩)] 27 27 32 238 140;obtain⟨L,M,N,O,R,S⟩:=Hx6 b1 b2 o p h u;clear b0 b1 b2 o p h u;obtain⟨ap,ak,an,aq,ar,aj⟩:=Hx6 hk hd hf E F X;clear hk hd hf E F X
 go_enter_defers func71,ntmps71
 go_wp2_with fail;have b1:=L.out;have b2:=M.out;have o:=N.out;have p:=O.out;have h:=R.out;have u:=S.out;clear L M N O R S;generalize ((((w.alloc (.cells #[l,j, d.fuse,m, .bool d.dead] 27)).alloc (.cells #[.slice none 0 0, .slice none 0 0, .int .i64 0, .slice none 0 0, .bool false] 27)).alloc (.cells #[.int .i64 0] 32)).alloc (.cells #[l,j, d.fuse,m, .bool d.dead] 238)).alloc (.cells #[.pointer (some ⟨w+1+1+1,0,none⟩)] 140)=s at*;have H:=lq d mt g a vs ap aF an ak z A (w+1+1+1) ab ac ad af ag ah ai s (aq.below h) (ar.below h) ⟨l,j,m,o,λn G=>aj.below (h.trans (G.below h.size (λk e=>by omega)))⟩ (by omega) (by omega);rw[Y] at H;refine H.mono ?_;rintro e I ⟨rfl,⟨bb,b9,bc,a0,D⟩,i⟩;have t:=D I (AW _ _);obtain⟨a1,c1,rfl⟩:=AK t.kept;obtain⟨U,c2,rfl⟩:=AK t.cache;obtain⟨V,c3,rfl⟩:=AK t.keep;have q:=i.blk b1 (by omega);have r:=i.blk b2 (by omega);have K:=i.blk p (by omega);have hp:=q.put5 (.slice a1 b.kept.length c1) (.slice U b.cache.length c2) (.int .i64 b.fuse) (.slice V b.keep.length c3) (.bool b.dead);have J:=hp.2.blk r (by omega);obtain⟨f0,f1,f2,f3,f4⟩:=a0.five;obtain⟨ax,g1,g2,ay,aC⟩:=q.five;obtain⟨aL,aM,aP,aT,aU⟩:=q.five';have C:=r.cell 0 rfl;have av:=r.free 0;have aK:=K.cell 0 rfl;have Z:Below w w I:=h.trans (i.below h.size (λk e=>by omega));have a5:w.heap.size+5<=s.heap.size:=by omega
 obtain⟨Q,P,al,v,aV,x,aX⟩:=Hx7 hp J D Z i a5 i.size;clear hp J D t a0 q r K H b1 b2 o p h i Z a5 u Y;go_wp2_with fail;obtain⟨h1,h2⟩:=Q.out;have h3:=P.out;clear Q P f0 f1 f2 f3 f4 ax g1 g2 ay aC aL aM aP aT aU C av aK;generalize ((((I.setCell ⟨w+1,0,none⟩ (.slice a1 b.kept.length c1)).setCell ⟨w+1,1,none⟩ (.slice U b.cache.length c2)).setCell ⟨w+1,2,none⟩ (.int .i64 b.fuse)).setCell ⟨w+1,3,none⟩ (.slice V b.keep.length c3)).setCell ⟨w+1,4,none⟩ (.bool b.dead)=y at*;have a6:=h1.other (c:=w.heap.size+1+1) (by omega) 0 (.int .i64 0);have a7:=h3.set 0 (.int .i64 0);have a3:=(h2.mono (R':=λk=>k<s.heap.size) (λk _ e=>by have:=x.out;omega)).trans ((Ad y (w+1+1) 0 (.int .i64 0)).mono (R':=λk=>k<s.heap.size) (λk _ e=>by have:=x.out;omega));have a4:=v.trans (((h2.below (B:=w.heap.size) (by have:=v.size;omega) (λk e=>by omega))).trans ((Ad y (w+1+1) 0 (.int .i64 0)).below (B:=w.heap.size) (by have:=v.size;have:=h2.size;omega) (λk e=>by omega)));generalize y.setCell ⟨w+1+1,0,none⟩ (.int .i64 0)=T at*;have a2:=lr ⟨w+1+1+1+1,0,none⟩ ⟨w+1,0,none⟩ ⟨w+1+1,0,none⟩ T;obtain⟨f0,f1,f2,f3,f4⟩:=a6.five;have C:T.cell? ⟨w+1+1,0,none⟩=some (.int .i64 0):=a7.cell 0 rfl;obtain⟨ao,au⟩:=Hx2 a3 a4;clear h1 h2 h3 a6 a7 a3 a4;refine HY (f:=159) (args:=#[.pointer (some ⟨w+1+1+1+1,0,none⟩), .pointer (some ⟨w+1,0,none⟩), .pointer (some ⟨w+1+1,0,none⟩)]) (by simp) (by simp[go_sem]) ?_;refine a2.mono ?_;rintro e b7 b8 ⟨rfl,rfl,rfl⟩;clear a2;simp[Leaves,settle,results,results71,go_sem,f0,f1,f2,f3,f4,C];exact⟨_,_,_,⟨rfl,rfl,rfl⟩,λn G=>al n (ao.trans (G.mono λk _ e=>by have:=x.out;omega)),au⟩
end Go.Proofs.YtmajkjjjfodhlaaGreatDoor
