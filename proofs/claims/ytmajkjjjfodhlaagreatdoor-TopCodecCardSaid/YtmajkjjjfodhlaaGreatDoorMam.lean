/- Part Mam. No condition of its own. -/
import Derived.Lib.AppendZerosOnto
import Derived.Shelf.Spec.SlicesInsert
import Derived.Test.YtmajkjjjfodhlaaGreatDoorMal
namespace Go.Proofs.YtmajkjjjfodhlaaGreatDoor
open Go.RowKit Tryz
set_option linter.all false
set_option maxRecDepth 100000
set_option maxHeartbeats 8000000
theorem RX:type_of%@List.getElem?_drop:=@List.getElem?_drop
theorem R7:type_of%@List.map_nil:=@List.map_nil
theorem W3:type_of%@List.pairwise_singleton:=@List.pairwise_singleton
def Hu(l:List Us)(a:Int):Int:=match CQ l a with|some i=>i|none=> -1
theorem gD{l:List Us}{a:Int}{k:Nat}(hk:k<l.length)(h:∀u∈l.take k,u.1≠a):(l[k].1=a->CQ l a=some k)/\(l[k].1≠a->∀u∈l.take (k+1),u.1≠a):=by
 constructor
 ·intro e;refine fN.2 ⟨hk,e,λj c d=>h _ (W2.2 ⟨j,by omega,rfl⟩)⟩
 ·intro e u b;rw[B1 hk,GA,B6] at b;rcases b with b|rfl
  ·exact h u b
  ·exact e
theorem gE(b:Nat)(x p q c:Int)(o:Bool)(w:World)(hc:w.cell? ⟨b,0,none⟩=some (.int .i64 x))(hb:b<w.heap.size):
 Calls prog 347 #[.agg #[p, q, c, .bool o], .pointer (some ⟨b,0,none⟩)] w λe w'=>e= .returned (.bool (p==x))/\Below w w w':=by
 have a:(w.alloc (.cells #[p, q, c, .bool o] 47)).cell? ⟨b,0,none⟩=some (.int .i64 x):=by rw[HD _ _ _ hb];exact hc
 have hd:(w.alloc (.cells #[p, q, c, .bool o] 47)).cell? ⟨w,0,none⟩=some (.int .i64 p):=by rw[G7];rfl
 go_enter func347,ntmps347;go_wp2_with fail;go_ret;exact⟨rfl,(A2 _ _).alloc (A1 _) _⟩
theorem gF(v:Value)(l:List Us)(b:Nat)(x:Int)(w:World)(F:AT w v l)(hl:l.length<=140737488355328)(hc:w.cell? ⟨b,0,none⟩=some (.int .i64 x))(hb:b<w.heap.size):
 Calls prog 346 #[v, .func (.func 347) #[] #[.pointer (some ⟨b,0,none⟩)]] w λe w'=>e= .returned (.int .i64 (Hu l x))/\Below w w w':=by
 have H:=A0 F;obtain⟨N,O,rfl,R,L,K⟩:=F;have I:=A0 hc;clear K L hc;go_enter func346,ntmps346;go_wp2_with fail;go_loopw [8] (λi wr=>∃k:Nat,k<=l.length/\i= .int .i64 k/\(∀u∈l.take k,u.1≠x)/\Below w w wr) (λi _=>l.length-(intOf i).toNat)
 case atStart=>exact⟨0,A7 _,rfl,by simp,A2 _ _⟩
 case round=>
  obtain⟨k,hk,rfl,z,B⟩:=hrel;obtain⟨m,a⟩:=Hx2 z B;clear z B;by_cases D:k<l.length
  ·obtain⟨b0,off,M,Q,J⟩:=E6 (Aj H a) D;subst M;obtain⟨r,s,t,y⟩:=J;have f:=gD D m;obtain⟨p,q,c,o,E⟩:∃p q c o,l[k]=(p,q,c,o):=⟨_,_,_,_,rfl⟩;rw[E] at r s t y f;dsimp only at r s t y f;have n:=A0 f;have C:=gE b x p q c o wr ((a.cell (p:=⟨b,0,none⟩) hb).trans I) (B3 hb a.size);have P:(k:Int)<(l.length:Int):=by omega
   have g1:(0:Int)<=(k:Int):=by omega
   clear f E;go_wp2_with fail;refine C.mono ?_;rintro e S ⟨rfl,A⟩;have j:=A0 (Cd a A);clear A C;by_cases d:p=x
   ·have b1:(p==x)=true:=by simpa using d
    have g:Hid (Hu l x=k):=by unfold Hid Hu;rw[n.out.1 d]
    clear d;go_wp2_with fail;go_ret;exact⟨by rw[g.out];rfl,j⟩
   ·have b1:(p==x)=false:=by simpa using d
    have G:=A0 (n.out.2 d);go_wp2_with fail;exact⟨⟨k+1,by omega,by go_num,G,j⟩,by simp[intOf];omega⟩
  ·obtain rfl:k=l.length:=by omega
   have g:Hid (Hu l x= -1):=by
    have h:=m.out;rw[D4] at h;unfold Hid Hu;rw[fO.2 h]
   go_wp2_with fail;go_ret;exact⟨by rw[g.out];rfl,a⟩
theorem Vx(v:Value)(l:List Us)(x:Int)(w:World)(b:AT w v l)(hl:l.length<=140737488355328):
 Calls prog 297 #[v, x] w λe w'=>e= .returned (.int .i64 (Hu l x))/\Below w w w':=by
 have f:∀(a:Fn) (first cap:Array Value) (w:World),(Instr.makeFunc a first cap).run prog w= .ok (.func a first cap) w:=λ_ _ _ _=>rfl;have d:=gF v l w.heap.size x (w.alloc (.cells #[x] 3)) (Aj b ((A2 _ _).alloc (A1 _) _)) hl (by rw[G7];rfl) (by simp);clear b;go_enter func297,ntmps297;go_wp2_with fail;refine d.mono ?_;rintro e g ⟨rfl,c⟩;go_wp2_with fail;go_ret;exact⟨rfl,Cd ((A2 _ _).alloc (A1 _) _) c⟩
theorem Vy{l:List Us}{a:Int}{i:Nat}(h:CQ l a=some i):Hu l a=i:=by unfold Hu;rw[h]
theorem Vz{l:List Us}{a:Int}(h:CQ l a=none):Hu l a= -1:=by unfold Hu;rw[h]
theorem QX(w:World)(e:TypeId)(x:Value):∀j u,[x][j]?=some u->(w.alloc (.cells #[x] e)).cell? ((⟨w,0,none⟩:Addr).add j)=some u:=by
 intro j u a;rw[Bo,B2,G7];simpa using a
theorem gG(l:List Us)(u:Us):Br (l++[u])=Br l++(if 0<u.2.2.1 then[J6 u] else[]):=by
 unfold Br;rw[H4,D1];by_cases h:0<u.2.2.1<;>simp[h]
theorem gH(l:List Us):(Br l).length<=l.length:=by
 unfold Br;rw[B4];exact K9 _ _
theorem gI(w:World)(u:Us)(e:TypeId):∀j x,(Bn u)[j]?=some x->(w.alloc (.cells #[u.1, u.2.1, u.2.2.1, .bool u.2.2.2] e)).cell? ((⟨w,0,none⟩:Addr).add j)=some x:=by
 intro j x a;rw[Bo,B2,G7];simpa using a
theorem gJ(u:Us):∀x∈Bn u,x.oneCell'=true:=by
 intro x a;simp only[Bn,Dn,L2,or_false] at a;rcases a with rfl|rfl|rfl|rfl<;>rfl
theorem gK(w:World)(o:Obj):(w.alloc o).heap.size=w.heap.size+1:=by simp
def Be(w:World)(v:Value)(ls:List (List Us)):Prop:=
 ∃vs:List Value,Av w v 1 (λx=>[x]) vs/\vs.length=ls.length/\∀i (a:i<vs.length) (b:i<ls.length),AT w vs[i] ls[i]
theorem DH{w w':World}{v:Value}{ls:List (List Us)}(h:Be w v ls)(hb:Below w w w'):Be w' v ls:=by
 obtain⟨vs,h1,h2,h3⟩:=h;exact⟨vs,Aj h1 hb,h2,λi a b=>Aj (h3 i a b) hb⟩
theorem E8{w:World}{v:Value}{ls:List (List Us)}(h:Be w v ls):∃a cap,v= .slice a ls.length cap/\(a=none->cap=0)/\ls.length<=cap:=by
 obtain⟨vs,⟨a,cap,rfl,h1,h2,_⟩,h3,_⟩:=h;exact⟨a,cap,by rw[h3],h2,by omega⟩
theorem Oj{w:World}{cap:Nat}{a:Option Addr}(c:a=none->cap=0):Be w (.slice a 0 cap) []:=⟨[],Cq c,rfl,λi b=>by simp at b⟩
theorem Gf{w:World}{a:Option Addr}{n cap:Nat}{ls:List (List Us)}(i:Be w (.slice a n cap) ls){k:Nat}(hk:k<ls.length):
 ∃b off c d,a=some ⟨b,off,none⟩/\b<w.heap.size/\w.cell? ⟨b,off+k,none⟩=some (.slice c ls[k].length d)/\AT w (.slice c ls[k].length d) ls[k]:=by
 obtain⟨vs,⟨l,m,j,hl,o,hc⟩,h2,h3⟩:=i;injection j with e1 e2 e3;subst e1;rcases hc with rfl|⟨b,off,rfl,hb,g⟩
 ·simp at h2;omega
 ·have e:=h3 k (by omega) hk;obtain⟨c,d,f,_⟩:=id e;have h:=g k (by omega) 0 (by omega);rw[f] at e;refine⟨b,off,c,d,rfl,hb,?_,e⟩;simpa[f] using h
def AN(ls:List (List Us)):Bool:=ls.all AE&&decide (1<=ls.length)&&decide (ls.length<=1000)
theorem Fp{ls:List (List Us)}:AN ls=true↔(∀l∈ls,AE l=true)/\1<=ls.length/\ls.length<=1000:=by simp[AN,and_assoc]
def FN(ls:List (List Us)):Prop:=(∀l∈ls,l.length<=100)/\ls.length<=100
theorem DQ{P:Program}{f:FuncId}{a:Func}{c:Code}(hf:P.funcs[f]?=some a)(b:(a.name== "runtime.NumGoroutine")=false)(hb:a.body=some c)(args:Array Value)(w:World):
 (callFunc f args).run P w= .ok (.enter f args) w:=by
 have h1:a.name≠ "runtime.NumGoroutine" :=by simpa using b
 simp[callFunc,hf,h1,hb]
theorem gL(F:FuncId)(a4:∀args w,(callFunc F args).run prog w= .ok (.enter F args) w)(g:List Us->Bool)(L:∀v l w,AT w v l->l.length<=100->Calls prog F #[v] w λe w'=>e= .returned (.bool (g l))/\Below w w w')
 (v:Value)(ls:List (List Us))(w:World)(hv:Be w v ls)(hf:FN ls):
 Calls prog 208 #[v, .func (.func F) #[] #[]] w λe w'=>∃a cap,e= .returned (.slice a ls.length cap)/\Av w' (.slice a ls.length cap) 1 (λx=>[.bool x]) (ls.map g)/\Below w w w':=by
 obtain⟨i0,u,C,D,E⟩:=BW Vg;have K:=A0 hv;obtain⟨N,a3⟩:=hf;obtain⟨V,X,rfl,P,_⟩:=E8 hv;clear hv P;go_enter func208,ntmps208;go_wp2_with (first
  |(at_make;refine wpList_make_own _ rfl _ _ 25 rfl w.heap.size 4 i0 (.bool false) 1 underlying25 u C D .i64 .i64 _ ls.length rfl rfl rfl (by rw[E];omega) (by simp[maxLen];omega) (A1 _) ?_
    intro a6 z s;have p:=(A2 w.heap.size w).grown s (A1 _) (λk hk=>by cases hk);obtain⟨Hown2,o⟩:=Hx2 z p;clear z s p)
  |fail)
 go_loopw [5,13] (λT i wr=>∃k:Nat,k<=ls.length/\i= .int .i64 k/\wr.ownsRow w.heap.size 4 1 T k (((ls.take k).map g).map Value.bool)/\Below w w wr) (λ_ i _=>ls.length-(intOf i).toNat)
 case atStart=>exact⟨0,A7 _,rfl,Hown2,o⟩
 case round=>
  clear Hown2 o;obtain⟨k,hk,rfl,c,r⟩:=hrel;obtain⟨a0,c0,rfl,_⟩:=Aw c;obtain⟨f,d⟩:=Hx2 c r;clear c r;by_cases j:k<ls.length
  ·obtain⟨b,off,W,Y,R,a1,a2,B⟩:=Gf (DH K d) j;subst R;have O:=N _ (BA j);have hc:=L _ _ wr B O;have Z:(k:Int)<(ls.length:Int):=by omega
   have g1:(0:Int)<=(k:Int):=by omega
   have H:Hid (((ls.take (k+1)).map g).map Value.bool=((ls.take k).map g).map Value.bool++[.bool (g ls[k])]):=by unfold Hid;rw[B1 j,D1,D1];rfl
   clear B;generalize S:ls[k]=x at*;clear S;go_wp2_with fail;refine hc.mono ?_;rintro e U ⟨rfl,h⟩;obtain⟨m,n⟩:=Hx2 (Cd d h) (Ag f h);have Q:=m.size;clear h hc f;generalize g x=y at*;go_wp2_with (first
    |(at_builtin;refine Ho _ rfl _ _ 25 rfl w.heap.size 4 i0 (.bool false) 1 1 underlying25 u C D E rfl (by decide) (.slice a0 k c0) _ _ rfl (n.alloc _) ⟨U,0,none⟩ 1 1 [.bool y] rfl rfl (QX _ _ _) (by simp[Value.oneCell']) (by simp[maxLen];omega) (by omega) (by simp;omega) ?_
      intro a5 a7 A t _;have q:=(m.alloc Q _).grown t (by simp;omega) (λb M=>Ah n b M);obtain⟨I,G⟩:=Hx2 A q;clear A t q)
    |fail)
   exact⟨⟨k+1,by omega,by go_num,by rw[H.out];exact I,G⟩,by simp[intOf];omega⟩
  ·obtain rfl:k=ls.length:=by omega
   have c:=f.out;rw[D4] at c;have hs:=(Cr c).1;have J:=A0 hs;clear c hs;go_wp2_with fail;go_ret;exact⟨_,_,rfl,J,d⟩
theorem gM(v:Value)(bs:List Bool)(w:World)(j:fI w v bs)(hl:bs.length<=140737488355328):
 Calls prog 207 #[v, .bool false] w λe w'=>e= .returned (.bool (!bs.all id))/\w=w':=by
 have o:Calls prog 273 #[v, .bool false] w λe w'=>(∃c:Int,e= .returned (.int .i64 c)/\decide (0<=c)= !bs.all id)/\w=w':=by
  rcases Da j with⟨rfl,a0,c0,rfl,_⟩|⟨s,b0,t,c0,rfl,r,q,d⟩
  ·go_enter func273,ntmps273;go_wp2
   refine wp_loop_rounds 1 ?_;rw[rounds_succ];go_wp2
   go_ret;exact⟨⟨-1,rfl,rfl⟩,rfl⟩
  ·clear j;go_enter func273,ntmps273;go_wp2
   go_loop [8] (λi=>∃k:Nat,k<=bs.length/\i= .int .i64 k/\(bs.take k).all id=true) (λi=>bs.length-(intOf i).toNat)
   case atStart=>exact⟨0,A7 _,rfl,rfl⟩
   case round=>
    obtain⟨k,hk,rfl,g⟩:=hrel;have a:=A0 g;clear g;by_cases b:k<bs.length
    ·have p:=d k b;have l:=A0 (B1 b);have f:bs[k]=false->bs.all id=false:=λh=>List.all_eq_false.2 ⟨bs[k],BA b,by simp[h]⟩;have m:=A0 f;have g1:(k:Int)<(bs.length:Int):=by omega
     clear d f;generalize bs[k]=x at*;cases x
     ·go_wp2
      go_ret;exact⟨⟨k,rfl,by rw[m.out (by trivial)];simp⟩,rfl⟩
     ·go_wp2
      exact⟨⟨k+1,by omega,by go_num,by rw[l.out,List.all_append,a.out];rfl⟩,by simp[intOf];omega⟩
    ·obtain rfl:k=bs.length:=by omega
     rw[D4] at a;go_wp2
     go_ret;exact⟨⟨-1,rfl,by rw[a.out];rfl⟩,rfl⟩
 go_enter func207,ntmps207;go_wp2_with fail;refine o.mono ?_;rintro e w' ⟨⟨c,rfl,hr⟩,rfl⟩;have n:=A0 hr;clear hr;go_wp2_with fail;go_ret;exact⟨by rw[<-n.out];rfl,rfl⟩
theorem Ok(v:Value)(ls:List (List Us))(w:World)(b:Be w v ls)(hf:FN ls):
 Calls prog 110 #[v] w λe w'=>e= .returned (.bool (AN ls))/\Below w w w':=by
 have hc:=gL 139 (DQ func139 (by kernel_rfl) rfl) AE (λv l w b hl=>Ka v l w b (by omega)) v ls w b hf;obtain⟨o,p⟩:=hf;obtain⟨m,n,rfl,h,_⟩:=E8 b;clear b h;by_cases h1:1<=ls.length
 ·have b1:decide ((ls.length:Int)<1)=false:=by simp;omega
  have b2:decide ((1000:Int)<(ls.length:Int))=false:=by simp;omega
  have a:Hid (AN ls=(ls.map AE).all id):=by
   unfold Hid AN;have j:decide (ls.length<=1000)=true:=by simp;omega
   have k:decide (1<=ls.length)=true:=by simpa using h1
   rw[j,k,Bool.and_true,Bool.and_true,List.all_map];rfl
  clear h1;go_enter func110,ntmps110;go_wp2_with fail;refine hc.mono ?_;rintro e i ⟨a1,c1,rfl,hs,g⟩;have hd:=gM _ _ i hs (by rw[B4];omega);have f:=A0 g;clear hs g hc;go_wp2_with fail;refine hd.mono ?_;rintro e q ⟨rfl,rfl⟩;clear hd;cases c:(ls.map AE).all id with
  |false=>
   have d:Hid (AN ls=false):=by unfold Hid;rw[a.out,c]
   clear c a;go_wp2_with fail;go_ret;exact⟨by rw[d.out];rfl,f⟩
  |true=>
   have d:Hid (AN ls=true):=by unfold Hid;rw[a.out,c]
   clear c a;go_wp2_with fail;go_ret;exact⟨by rw[d.out];rfl,f⟩
 ·have b1:decide ((ls.length:Int)<1)=true:=by simp;omega
  have a:Hid (AN ls=false):=by unfold Hid AN;simp;omega
  clear h1 hc;go_enter func110,ntmps110;go_wp2_with fail;go_ret;exact⟨by rw[a.out];rfl,A2 _ _⟩
structure Pl where
 disk:Dk
 mt:Int
 gen:Int
 area:Int
 vols:List Vl
 tabs:List (List Us)
abbrev AO(b a c e d:Value)(p:Pl):Value:= .agg #[b,a, p.disk.fuse,c, .bool p.disk.dead, p.mt, p.gen, p.area,e,d]
structure AH(w:World)(vk vc vp vv vt:Value)(p:Pl):Prop where
 disk:By w vk vc vp p.disk
 vols:CU w vv p.vols
 tabs:Be w vt p.tabs
theorem AH.below{w w':World}{b a c e d:Value}{p:Pl}(h:AH w b a c e d p)(hb:Below w w w'):AH w' b a c e d p:=
 ⟨h.disk.below hb,EJ h.vols hb,DH h.tabs hb⟩
structure QY(p:Pl):Prop where
 disk:Bd p.disk
 keep:p.disk.keep.length≤10000000
 vols:D5 p.vols
 tabs:p.tabs.length≤1000
 tab:∀l∈p.tabs,l.length≤1000000
theorem Ol:∀{l:List (Int×Int)} {k v:Int},EI l k=some v->(k,v)∈l
 |[],_,_,h=>by cases h
 |x::l,k,v,h=>by
  rw[EI] at h;by_cases a:x.1=k
  ·rw[A4 a] at h;injection h with h;subst h a;exact Hh ..
  ·rw[A3 a] at h;exact G2 _ (Ol h)
def Om:List Int->List (Int×Int)
 |[]=>[]
 |x::l=>[(x,(l.length:Int)+1)]
def CR(vs:List Vl):List (Int×Int):=Om (As vs)
theorem gN{x:Int}{l:List Int}(h:LE (x::l))(y:Int):(x::l).count y=if y=x then l.length+1 else 0:=by
 split
 ·rename_i e;subst e;exact(List.count_eq_length.2 λb hb=>h _ (by simp) b hb)
 ·rename_i e;exact List.count_eq_zero.2 λhy=>e (h _ hy _ (by simp))
theorem Ji{vs:List Vl}(h:LE (As vs))(p:Int×Int):p∈CR vs↔p.2=(As vs).count p.1/\0<(As vs).count p.1:=by
 unfold CR;cases e:As vs with
 |nil=>simp[Om]
 |cons x l=>
  rw[e] at h;rw[gN h,Om,B6];split
  ·rename_i b;constructor
   ·intro a;rw[a];exact⟨by simp,by omega⟩
   ·rintro⟨a,_⟩;exact Prod.ext b (by rw[a];simp)
  ·rename_i b;exact⟨λa=>absurd (by rw[a]) b,λa=>absurd a.2 (by omega)⟩
theorem gO(vs:List Vl):(CR vs).Pairwise λa b=>a.1<b.1:=by
 unfold CR;cases As vs with
 |nil=>exact List.Pairwise.nil
 |cons x l=>exact W3 _ _
theorem QZ(vals:List Int)(n m:Int):(vals++[n]).count m=vals.count m+if m=n then 1 else 0:=by
 rw[List.count_append,List.count_singleton];by_cases e:m=n
 ·subst e;simp
 ·have:(n==m)=false:=by simpa using λa=>e a.symm
  rw[this,A3 e];rfl
theorem VE:(prog.info? 45).map (λi=>(i.zero,i.size,i.bytes))=some (some (.slice none 0 0),1,24):=by kernel_rfl
theorem VF{w w':World}{x:Value}{l:List Us}{row:Option Nat}(h:AT w x l)(c:w.grownBy w' row)(f:∀b,x.ownBlock=some b->some b≠row):AT w' x l:=by
 obtain⟨a,cap,rfl,h1,h2,h3⟩:=h;refine⟨a,cap,rfl,h1,h2,?_⟩;rcases h3 with h3|⟨b,off,rfl,hb,hc⟩
 ·exact Or.inl h3
 ·refine Or.inr ⟨b,off,rfl,B3 hb c.size,λi d j e=>?_⟩;rw[Q3 (w:=w) (c.block b hb (f b rfl))];exact hc i d j e
theorem VG{w:World}{x:Value}{l:List Us}(h:AT w x l){p:Addr}{a:Option Addr}{n c:Nat}(hp:w.cell? p=some (.slice a n c))(v:Value):AT (w.setCell p v) x l:=by
 obtain⟨a0,cap,rfl,h1,h2,h3⟩:=h;refine⟨a0,cap,rfl,h1,h2,?_⟩;rcases h3 with h3|⟨b,off,rfl,hb,hc⟩
 ·exact Or.inl h3
 ·refine Or.inr ⟨b,off,rfl,by simpa[World.setCell] using hb,λi d j f=>?_⟩;have h0:=hc i d j f;rw[J1 w _ _ _ (by
   intro e;rw[e] at hp;rw[hp] at h0;rcases j with _|_|_|_|j
   ·simp at h0
   ·simp at h0
   ·simp at h0
   ·simp at h0
   ·omega)]
  exact h0
theorem On{w:World}{base e size n b:Nat}{v:Value}{xs:List Value}(h:w.ownsRow base e size v n xs)(hb:v.ownBlock=some b)(j:Nat):w.frozen? ⟨b,j,none⟩=false:=by
 obtain⟨_,h⟩:=h;rcases h with⟨rfl,_⟩|⟨g,cap,cur,rfl,a,hc,_⟩
 ·cases hb
 ·simp only[Value.ownBlock,Hs] at hb;subst hb;exact frozen_of_row w g j cur e hc
theorem Oo{w:World}{base e n:Nat}{v:Value}{vs:List Value}{ls:List (List Us)}(h:w.ownsRow base e 1 v n vs)(hl:vs.length=ls.length)(b:∀i (c:i<vs.length) (d:i<ls.length),AT w vs[i] ls[i]):Be w v ls:=by
 have a:w.ownsRow base e 1 v n (vs.map λx=>x):=by simpa using h
 exact⟨vs,(Cr a).1,hl,b⟩
theorem VH{w:World}{b off n cap:Nat}{ls:List (List Us)}(h:Be w (.slice (some ⟨b,off,none⟩) n cap) ls){k:Nat}(hk:k<ls.length){x:Value}{l:List Us}(p:AT w x l):
 Be (w.setCell ⟨b,off+k,none⟩ x) (.slice (some ⟨b,off,none⟩) n cap) (ls.set k l):=by
 obtain⟨m,q,s,u,a,hb,f,_⟩:=Gf h hk;injection a with a;injection a with e1 e2 e3;subst e1 e2;obtain⟨vs,⟨r,t,o,hl,y,hc⟩,h2,h3⟩:=h;injection o with e1 e2 e3;subst e1 e2 e3;rcases hc with rfl|⟨m,q,a,v,hc⟩
 ·simp at h2;omega
 injection a with a;injection a with e1 e2 e3;subst e1 e2;refine⟨vs.set k x,⟨some ⟨b,off,none⟩,cap,by simp,by simpa using hl,nofun,Or.inr ⟨b,off,rfl,by simpa[World.setCell] using hb,λi c j g=>?_⟩⟩,by simpa using h2,λi c g=>?_⟩
 ·obtain rfl:j=0:=by omega
  simp only[Di] at c;have h0:=hc i c 0 (by omega);simp only[J0,Hb] at h0⊢;by_cases d:i=k
  ·subst d;rw[World.cell?_setCell_same w _ _ f];simp
  ·rw[J1 w _ _ _ (by intro e;injection e with _ e _;omega),h0];simp[Ne.symm d]
 ·simp only[Di] at c g;by_cases d:i=k
  ·subst d;simpa using VG p f x
  ·have:=VG (h3 i c (by omega)) f x;simpa[HC,Ne.symm d] using this
theorem gP{wr a r:World}{j:Obj}{f d q:Value}{vs:List Value}{c:List (List Us)}{l:List Us}{k:Nat}(h1:Below wr wr a)(u:∀b,f.ownBlock=some b->b<wr.heap.size)
 (y:∀i (n:i<vs.length) (p:i<c.length),AT wr vs[i] c[i])(v:vs.length=k)(t:∀x∈vs,∀b,x.ownBlock=some b->f.ownBlock≠some b/\b<wr.heap.size)
 (w:AT a d l)(s:∀b,d.ownBlock=some b->wr.heap.size<=b/\b<a.heap.size)(m:(a.alloc j).grownBy r f.ownBlock)(z:q.ownBlock=f.ownBlock\/q.ownBlock=some (a.alloc j).heap.size)
 (hk:k<c.length)(hl:c[k]=l):
 (∀i (n:i<(vs++[d]).length) (p:i<c.length),AT r (vs++[d])[i] c[i])/\∀x∈vs++[d],∀b,x.ownBlock=some b->q.ownBlock≠some b/\b<r.heap.size:=by
 have hs:=m.size;have A:=h1.size;rw[Bx] at hs;have ha:Below a a (a.alloc j):=(A2 _ _).alloc (A1 _) _;constructor
 ·intro i n p;simp only[A9,BV,C4] at n;by_cases o:i<vs.length
  ·rw[K2 o];refine VF (Aj (Aj (y i o p) h1) ha) m λb hb e=>?_;exact(t _ (BA o) b hb).1 e.symm
  ·obtain rfl:i=k:=by omega
   rw[K3 (by omega)];simp only[v,Hr,H5];rw[hl];refine VF (Aj w ha) m λb hb e=>?_;have:=u b e.symm;have:=s b hb;omega
 ·intro x g b hb;rw[GA,B6] at g;have key:f.ownBlock≠some b/\b<a.heap.size:=by
   rcases g with g|rfl
   ·have:=t x g b hb;exact⟨this.1,by omega⟩
   ·have h2:=s b hb;refine⟨λe=>?_,h2.2⟩;have:=u b e;omega
  refine⟨λe=>?_,by omega⟩;rcases z with h|h
  ·rw[h] at e;exact key.1 e
  ·rw[h,Bx] at e;injection e with e;omega
theorem VI(F:FuncId)(aq:∀args w,(callFunc F args).run prog w= .ok (.enter F args) w)(g:List Us->List Us)
 (a7:∀v l w,AT w v l->l.length<=100->Calls prog F #[v] w λe w'=>∃t,e= .returned t/\AT w' t (g l)/\(∀b,t.ownBlock=some b->w.heap.size<=b/\b<w'.heap.size)/\Below w w w')
 (v:Value)(ls:List (List Us))(w:World)(hv:Be w v ls)(hf:FN ls):
 Calls prog 126 #[v, .func (.func F) #[] #[]] w λe w'=>∃a cap,e= .returned (.slice a ls.length cap)/\Be w' (.slice a ls.length cap) (ls.map g)/\(∀b,(Value.slice a ls.length cap).ownBlock=some b->w.heap.size<=b/\∀j,w'.frozen? ⟨b,j,none⟩=false)/\Below w w w':=by
 obtain⟨i0,c,R,S,T⟩:=BW VE;have Z:=A0 hv;obtain⟨a8,ap⟩:=hf;obtain⟨ah,aj,rfl,aa,_⟩:=E8 hv;clear hv aa;go_enter func126,ntmps126;go_wp2_with (first
  |(at_make;refine wpList_make_own _ rfl _ _ 29 rfl w.heap.size 45 i0 (.slice none 0 0) 1 underlying29 c R S .i64 .i64 _ ls.length rfl rfl rfl (by rw[T];omega) (by simp[maxLen];omega) (A1 _) ?_
    intro av N L;have G:=(A2 w.heap.size w).grown L (A1 _) (λk hk=>by cases hk);obtain⟨Hown2,C⟩:=Hx2 N G;clear N L G)
  |fail)
 go_loopw [5,13] (λU i wr=>∃(k:Nat) (vs:List Value),k<=ls.length/\i= .int .i64 k/\wr.ownsRow w.heap.size 45 1 U k vs/\vs.length=k/\(∀i (c:i<vs.length) (M:i<(ls.map g).length),AT wr vs[i] (ls.map g)[i])/\(∀x∈vs,∀b,x.ownBlock=some b->U.ownBlock≠some b/\b<wr.heap.size)/\Below w w wr) (λ_ i _=>ls.length-(intOf i).toNat)
 case atStart=>exact⟨0,[],A7 _,rfl,Hown2,rfl,λi c=>by simp at c,(λx af=>by simp at af),C⟩
 case round=>
  clear Hown2 C;obtain⟨k,vs,hk,rfl,r,Q,P,m,K⟩:=hrel;obtain⟨a0,c0,rfl,_⟩:=Aw r;obtain⟨d,n,D,a3,o⟩:=Hx5 r K P m Q;clear r K P m Q;by_cases q:k<ls.length
  ·obtain⟨b,off,ai,ak,ad,an,ao,f⟩:=Gf (DH Z n) q;subst ad;have a9:=a8 _ (BA q);have hc:=a7 _ _ wr f a9;have al:(k:Int)<(ls.length:Int):=by omega
   have g1:(0:Int)<=(k:Int):=by omega
   have z:Hid (∃hk:k<(ls.map g).length,(ls.map g)[k]=g ls[k]):=⟨by simpa using q,by simp⟩;clear f;generalize g ls[k]=E at*;generalize ls[k].length=ay at*;go_wp2_with fail;refine hc.mono ?_;rintro e ag ⟨ar,rfl,s,J,h⟩;obtain⟨a1,c1,ac,_⟩:=id s;subst ac;obtain⟨y,A⟩:=Hx2 (Cd n h) (Ag d h);have ab:=y.size;obtain⟨Y,a4,a2⟩:=Hx3 s J h;have a5:Hid (∀b,(Value.slice a0 k c0).ownBlock=some b->b<wr.heap.size):=AM d;have a6:Hid (∀u∈[Value.slice a1 E.length c1],u.oneCell'=true):=by
    intro u f;rw[B6] at f;subst f;rfl
   clear h hc d s J;go_wp2_with (first
    |(at_builtin;refine F0 _ rfl _ _ 29 rfl w.heap.size 45 i0 (.slice none 0 0) 1 24 underlying29 c R S T rfl (by decide) (.slice a0 k c0) _ _ rfl (A.alloc _) ⟨ag,0,none⟩ 1 1 [.slice a1 E.length c1] rfl rfl (QX _ _ _) a6 (by simp[maxLen];omega) (by omega) (by simp;omega) ?_
      intro au ax O p _ I;have H:=(y.alloc ab _).grown p (by simp;omega) (λb m=>Ah A b m);obtain⟨W,V,B⟩:=Hx3 O H (gP a2 a5 D o a3 Y a4 p I z.out.1 z.out.2);clear O p H I)
    |fail)
   exact⟨⟨k+1,vs++[_],by omega,by go_num,W,by simp[o.out],B.out.1,B.out.2,V⟩,by simp[intOf];omega⟩
  ·obtain rfl:k=ls.length:=by omega
   have X:=A0 (Oo (ls:=ls.map g) d (by rw[o.out,B4]) (λi c M=>by have:=D i c M;exact this));go_wp2_with fail;go_ret;exact⟨_,_,rfl,X,λb hb=>⟨Ah d b hb,On d hb⟩,n⟩
theorem gQ(v:Value)(l:List Us)(w:World)(s:AT w v l)(hl:l.length<=140737488355328):
 Calls prog 127 #[v] w λe w'=>∃a cap,e= .returned (.slice a (Fm l).length cap)/\AT w' (.slice a (Fm l).length cap) (Fm l)/\Below w w w'/\∀b,(Value.slice a (Fm l).length cap).ownBlock=some b->w.heap.size<=b/\b<w'.heap.size:=by
 obtain⟨i0,Q,T,U,V⟩:=BW J9;have hm:=Ka v l w s hl;have H:=A0 s;obtain⟨Y,Z,rfl,a3,R,P⟩:=s;clear P R;cases f:AE l with
 |false=>
  rw[f] at hm;have r:Hid (Fm l=[]):=by unfold Hid Fm;rw[f];rfl
  clear f;go_enter func127,ntmps127;go_wp2_with fail;refine hm.mono ?_;rintro e X ⟨rfl,n⟩;go_wp2_with fail;go_ret;rw[r.out];exact⟨none,0,rfl,Cq λ_=>rfl,n,nofun⟩
 |true=>
  rw[f] at hm;have r:Hid (Fm l=Br l):=by unfold Hid Fm;rw[f];rfl
  have a4:=GL f;clear f;go_enter func127,ntmps127;go_wp2_with fail;refine hm.mono ?_;rintro e X ⟨rfl,n⟩;have t:=A0 n;clear n hm;go_wp2_with fail;go_loopw [3,11] (λW i wr=>∃k:Nat,k<=l.length/\i= .int .i64 k/\wr.ownsRow w.heap.size 47 4 W (Br (l.take k)).length (Al (Br (l.take k)))/\Below w w wr) (λ_ i _=>l.length-(intOf i).toNat)
  case atStart=>exact⟨0,A7 _,rfl,C2 _ _ _ _,t⟩
  case round=>
   clear t;obtain⟨k,hk,rfl,d,y⟩:=hrel;obtain⟨a0,c0,rfl,_⟩:=Aw d;obtain⟨m,j⟩:=Hx2 d y;clear d y;by_cases A:k<l.length
   ·obtain⟨b0,off,S,a2,J⟩:=E6 (Aj H j) A;subst S;obtain⟨K,L,M,N⟩:=J;have g:Hid (Br (l.take (k+1))=Br (l.take k)++(if 0<l[k].2.2.1 then[J6 l[k]] else[])):=by unfold Hid;rw[B1 A];exact gG _ _
    have a5:=gH (l.take k);have a6:(l.take k).length<=k:=ID _ _;have C:=j.size;have a1:(k:Int)<(l.length:Int):=by omega
    have g1:(0:Int)<=(k:Int):=by omega
    generalize l[k]=u at*;generalize Br (l.take k)=I at*;obtain⟨p,q,c,o⟩:=u;dsimp only at K L M N g;by_cases hc:0<c
    ·have b1:decide (0<c)=true:=by simpa using hc
     rw[A4 hc] at g;clear hc;go_wp2_with (first
      |(at_builtin;refine Ho _ rfl _ _ 45 rfl w.heap.size 47 i0 _ 4 32 underlying45 Q T U V rfl (by decide) (.slice a0 I.length c0) _ _ rfl ((m.alloc _).alloc _) ⟨wr+1,0,none⟩ 1 1 (Bn (p,q,c,true)) rfl rfl (by have h:=gI (wr.alloc (.cells #[p, q, c, .bool true] 47)) (p,q,c,true) 47;rw[gK] at h;exact h) (gJ _) (by simp[maxLen];omega) (by omega) (by simp;omega) ?_
        intro a7 a8 B z _;have x:=((j.alloc C _).alloc (by simp;omega) _).grown z (by simp;omega) (λb O=>Ah m b O);obtain⟨F,D⟩:=Hx2 B x;clear B z x)
      |fail)
     exact⟨⟨k+1,by omega,by go_num,by rw[g.out,Mk,A9];exact F,D⟩,by simp[intOf];omega⟩
    ·have b1:decide (0<c)=false:=by simpa using hc
     rw[A3 hc,E5] at g;clear hc;go_wp2_with fail;exact⟨⟨k+1,by omega,by go_num,by rw[g.out];exact m.alloc _,j.alloc C _⟩,by simp[intOf];omega⟩
   ·obtain rfl:k=l.length:=by omega
    have d:=m.out;rw[D4] at d⊢;have hs:=(ED d).1;obtain⟨G,E⟩:=Hx2 hs (λb hb=>And.intro (Ah d b hb) (AM d b hb));clear d hs;go_wp2_with fail;go_ret;rw[r.out];exact⟨_,_,rfl,G,j,λb hb=>E b hb⟩
theorem VJ(v:Value)(ls:List (List Us))(w:World)(d:Be w v ls)(hf:FN ls):
 Calls prog 126 #[v, .func (.func 117) #[] #[]] w λe w'=>∃a cap,e= .returned (.slice a ls.length cap)/\Be w' (.slice a ls.length cap) ls/\(∀b,(Value.slice a ls.length cap).ownBlock=some b->w.heap.size<=b/\∀j,w'.frozen? ⟨b,j,none⟩=false)/\Below w w w':=by
 have h:=VI 117 (DQ func117 (by kernel_rfl) rfl) (λl=>l) (λv l w d hl=>by
  refine(Oi v l w d (by omega)).mono ?_;rintro e w' ⟨i,rfl,c,hb⟩;exact⟨i,rfl,(ED c).1,λb f=>⟨Ah c b f,AM c b f⟩,hb⟩) v ls w d hf
 refine h.mono ?_;rintro e w' ⟨a,cap,rfl,g,hk,hb⟩;rw[List.map_id'] at g;exact⟨a,cap,rfl,g,hk,hb⟩
def GN(ls:List (List Us)):List (List Us):=if AN ls=true then ls.map Fm else[]
theorem gR(v:Value)(ls:List (List Us))(w:World)(d:Be w v ls)(hf:FN ls):
 Calls prog 54 #[v] w λe w'=>∃a cap,e= .returned (.slice a (GN ls).length cap)/\Be w' (.slice a (GN ls).length cap) (GN ls)/\(∀b,(Value.slice a (GN ls).length cap).ownBlock=some b->w.heap.size<=b)/\Below w w w':=by
 have hc:=Ok v ls w d hf;have hd:∀c,Below w w c->Calls prog 126 #[v, .func (.func 127) #[] #[]] c λe w'=>∃a cap,e= .returned (.slice a ls.length cap)/\Be w' (.slice a ls.length cap) (ls.map Fm)/\(∀b,(Value.slice a ls.length cap).ownBlock=some b->c.heap.size<=b/\∀j,w'.frozen? ⟨b,j,none⟩=false)/\Below c c w':=λc hb=>VI 127 (DQ func127 (by kernel_rfl) rfl) Fm (λv l w d hl=>by
  refine(gQ v l w d (by omega)).mono ?_;rintro e w' ⟨a,cap,rfl,t,hb,hk⟩;exact⟨_,rfl,t,hk,hb⟩) v ls c (DH d hb) hf
 obtain⟨u,x,rfl,s,_⟩:=E8 d;clear d s;cases hm:AN ls with
 |false=>
  have g:Hid (GN ls=[]):=by unfold Hid GN;rw[hm];rfl
  rw[hm] at hc;clear hd hm;go_enter func54,ntmps54;go_wp2_with fail;refine hc.mono ?_;rintro e c ⟨rfl,f⟩;go_wp2_with fail;go_ret;rw[g.out];exact⟨none,0,rfl,Oj λ_=>rfl,λb hb=>(by cases hb),f⟩
 |true=>
  have g:Hid (GN ls=ls.map Fm):=by unfold Hid GN;rw[hm];rfl
  rw[hm] at hc;clear hm;go_enter func54,ntmps54;go_wp2_with fail;refine hc.mono ?_;rintro e c ⟨rfl,f⟩;have h:=A0 f;have k:=hd c f;clear hd hc f;go_wp2_with fail;refine k.mono ?_;rintro e y ⟨r,c2,rfl,n,m,i⟩;obtain⟨q,p,o⟩:=Hx3 n (λb hb=>A8 h.size (m b hb).1) (Cd h i);clear k n i m;go_wp2_with fail;go_ret;rw[g.out];exact⟨r,c2,by rw[B4];rfl,by rw[B4];exact q,λb hb=>p b (by rw[B4] at hb;exact hb),o⟩
section
open Go.RowKit Go.Lib
def DI(cur:List Value)(o:Nat)(cs:List Value):List Value:=cur.take o++cs++cur.drop (o+cs.length)
theorem KW{cur cs:List Value}{o:Nat}(h:o+cs.length<=cur.length):(DI cur o cs).length=cur.length:=by
 unfold DI;simp only[A9,B5,G1];omega
theorem VK{cur cs:List Value}{o m:Nat}(h:o<=cur.length)(hm:m<=o):(DI cur o cs).take m=cur.take m:=by
 unfold DI;rw[C1,List.take_append_of_le_length (by rw[B5];omega),L4,HR hm]
theorem Q0{cur cs:List Value}{o:Nat}(h:o<=cur.length):(DI cur o cs).take (o+cs.length)=cur.take o++cs:=by
 unfold DI;rw[P6];rw[A9,B5];omega
section
variable {P:Program} (w:World)
theorem Oq(e z A b:TypeId)(k g o d l:Nat)(a:Addr)(h y n:Nat)(cur:List Value)(t:TypeId)(cs:List Value)
 (x:P.underlying e=some (.slice b))(hs:(P.info? b).map (·.size)=some k)
 (p:w.heap[g]?=some (.cells cur.toArray t (0,0)))(r:Nat.min h d=n)(hl:cs.length=n*k)
 (s:∀j v,cs[j]?=some v->w.cell? (a.add j)=some v)(m:o+cs.length<=cur.length)(h1:∀v∈cs,v.oneCell'=true):
 (Builtin.copy_ #[e,z] A #[.slice (some ⟨g,o,none⟩) d l, .slice (some a) h y]).run P w= .ok (goInt n) (w.setRow g (DI cur o cs).toArray):=by
 have f:=run_loadCells_list (P:=P) w a cs s;rw[hl] at f;have u:=run_storeCells_at P g o t cs 0 cur.toArray w p (by simpa using m) h1;cases c:P.info? b with
 |none=>simp[c] at hs
 |some i=>
  have q:i.size=k:=by simpa[c] using hs
  simp[Builtin.copy_,J3 x,Builtin.lenOf,Builtin.firstCells,sizeOf,typeInfo,c,q,r,f,u,DI]
theorem gS(t v e:TypeId)(i:TypeInfo)(k:Nat)(s:P.underlying t=some (.slice e))(l:P.info? e=some i)(hk:i.size=k)
 (g n cap:Nat)(cur:List Value)(d:TypeId)(h:w.heap[g]?=some (.cells cur.toArray d (0,0)))(b:Addr)(m c:Nat)(a:List Value)(o:a.length=m*k)
 (q:∀j u,a[j]?=some u->w.cell? (b.add j)=some u)(h1:∀u∈a,u.oneCell'=true)(p:n+m<=cap)(f:n*k+a.length<=cur.length):
 (Builtin.append_ #[t,t] v #[.slice (some ⟨g,0,none⟩) n cap, .slice (some b) m c]).run P w= .ok (.slice (some ⟨g,0,none⟩) (n+m) cap) (w.setRow g (DI cur (n*k) a).toArray):=by
 subst hk;have hf:=run_firstCells_some (P:=P) w i.size m b m c a o q;have r:=run_storeCells_at P g (n*i.size) d a 0 cur.toArray w h (by simpa using f) h1;have ha:(⟨g,0,none⟩:Addr).add (n*i.size)=⟨g,n*i.size,none⟩:=by rw[Bo,B2]
 simp[Builtin.append_,J3 s,sizeOf,typeInfo,l,Builtin.lenOf,p,hf,ha,r,DI]
theorem gU(t e m:TypeId)(d:Value)(a:List Value)(j:P.underlying t=some (.slice e))(k:∀w,(zeroValue e).run P w= .ok d w)(l:(Builtin.zeroCells d.cells 1).toList=a)(h1:∀u∈a,u.oneCell'=true)
 (g o c:Nat)(cur:List Value)(b:TypeId)(h:w.heap[g]?=some (.cells cur.toArray b (0,0)))(f:o+a.length<=cur.length):
 (Builtin.clear_ #[t] m #[.slice (some ⟨g,o,none⟩) 1 c]).run P w= .ok (.tuple #[]) (w.setRow g (DI cur o a).toArray):=by
 have i:=run_storeCells_at P g o b a 0 cur.toArray w h (by simpa using f) h1;simp[Builtin.clear_,J3 j,k,l,i,DI]
end
section
variable {P:Program} {ops:Array Oper} {rest:List Oper} {o:Oper} {a:Act} {w:World} {Q:Exit→Act→World→Prop}
theorem VL(c:o.guard=none)(x:Operand)(t:TypeId)
 (d:o.op= .call {callee:= .builtin .clear,args:=#[x],argTypes:=#[t]})(v:Value)(hx:a.eval x=v){v':Value}{w':World}
 (hr:(Builtin.clear_ #[t] o.type #[v]).run P w= .ok v' w')(h:wpList P ops Q rest (a.put o.dst v') w'):wpList P ops Q (o::rest) a w:=
 wpList_plain c λK b=>by
  unfold Oper.wp execOp;simp only[d,resolve,invoke,builtin,Q2,Sem.run_pure,Result.andThen_ok,List.map_toArray,F4,R7,hx,hr];exact b _ _ h
theorem VM{K:Act->World->Prop}{E:Prop}(c:o.guard=none)(s x:Operand)(t b:TypeId)
 (d:o.op= .call {callee:= .builtin .append,args:=#[s,x],argTypes:=#[t,b]})(v u:Value)(hd:a.eval s=v)(hx:a.eval x=u){v':Value}{w':World}
 (hr:(Builtin.append_ #[t,b] o.type #[v,u]).run P w= .ok v' w')(hK:K (a.put o.dst v') w'):
 if Region.wanted o (yielded ops a.tmps)=true then Oper.wp P o a w K Q else E:=by
 have e:Region.wanted o (yielded ops a.tmps)=true:=by simp[Region.wanted,c]
 rw[A4 e];unfold Oper.wp;simp[execOp,d,resolve,invoke,builtin,hd,hx,hr,Result.andThen];exact hK
end
theorem Ot{w:World}{base e n size cap g:Nat}{cs:List Value}(h:w.ownsRow base e size (.slice (some ⟨g,0,none⟩) n cap) n cs):
 ∃cur:List Value,base<=g/\w.heap[g]?=some (.cells cur.toArray e (0,0))/\n<=cap/\cap<=maxLen/\cur.length=cap*size/\cur.take (n*size)=cs:=by
 obtain⟨hl,h⟩:=h;rcases h with⟨h,_⟩|⟨c,b,cur,a,h1,h2,h3,h4,h5,h6⟩
 ·cases h
 ·injection a with q1 q2 q3;injection q1 with q1;injection q1 with q1;subst q1 q3;exact⟨cur.toList,h1,by simpa using h2,h3,h4,by simpa using h5,h6⟩
theorem Ou{w:World}{base e n size cap g:Nat}{cs cur:List Value}(h1:base<=g)(h2:w.heap[g]?=some (.cells cur.toArray e (0,0)))(h3:n<=cap)(h4:cap<=maxLen)(h5:cur.length=cap*size)(h6:cur.take (n*size)=cs):
 w.ownsRow base e size (.slice (some ⟨g,0,none⟩) n cap) n cs:=by
 refine⟨?_,Or.inr ⟨g,cap,cur.toArray,rfl,h1,h2,h3,h4,by simpa using h5,by simpa using h6⟩⟩;rw[<-h6,B5,h5];exact HR (Nat.mul_le_mul_right _ h3)
theorem KY{B g:Nat}{w w':World}(h:Below B w w')(a:B<=g)(cs:Array Value):Below B w (w'.setRow g cs):=below_setRow h a cs
theorem VN{w:World}{g b o:Nat}{cs:Array Value}(a:g≠b):(w.setRow g cs).cell? ⟨b,o,none⟩=w.cell? ⟨b,o,none⟩:=by
 unfold World.setRow World.cell?;simp only;rw[V2];simp[a]
theorem H6{w:World}{g o:Nat}{cur:List Value}{e:TypeId}(a:w.heap[g]?=some (.cells cur.toArray e (0,0))):w.cell? ⟨g,o,none⟩=cur[o]?:=by
 unfold World.cell?;simp[a]
end
section
open Go.RowKit Go.Lib
abbrev Q4:Us:=(0,0,0,false)
theorem gV:∀w,(zeroValue 47).run prog w= .ok (.agg #[.int .i64 0, .int .i64 0, .int .i64 0, .bool false]) w:=λw=>by kernel_rfl
theorem gW:(Builtin.zeroCells (Value.agg #[.int .i64 0, .int .i64 0, .int .i64 0, .bool false]).cells 1).toList=Bn Q4:=by kernel_rfl
theorem Ov(u:Us):∀x∈Bn u,x.oneCell'=true:=by
 intro x a;simp only[Bn,Dn,L2,or_false] at a;rcases a with rfl|rfl|rfl|rfl<;>rfl
theorem Ow:(prog.info? 47).map (·.size)=some 4:=by kernel_rfl
theorem Ox{cur:List Value}{l:List Us}{n:Nat}(_hn:n=l.length)(h:cur.take (n*4)=Al l)(_hfit:n*4<=cur.length):∀(j:Nat) (u:Value),(Al l)[j]?=some u->cur[j]?=some u:=by
 intro j u a;rw[<-h,List.getElem?_take] at a;split at a
 ·exact a
 ·cases a
theorem gY(g n cap base B:Nat)(l:List Us)(i:Nat)(w:World)(A:w.ownsRow base 47 4 (.slice (some ⟨g,0,none⟩) n cap) n (Al l))(a3:i<n)(a4:n<=1000000)(a1:B<=base):
 Calls prog 298 #[.slice (some ⟨g,0,none⟩) n cap, i, .int .i64 ((i:Int)+1)] w λe w'=>
  e= .returned (.slice (some ⟨g,0,none⟩) (n-1) cap)/\w'.ownsRow base 47 4 (.slice (some ⟨g,0,none⟩) (n-1) cap) (n-1) (Al (l.eraseIdx i))/\Below B w w':=by
 obtain⟨i0,T,a6,V,a7⟩:=BW J9;obtain⟨cur,c1,c2,c3,c4,c5,v⟩:=Ot A;have s:n=l.length:=(ED A).2;have a2:cap<=9223372036854775807:=by unfold maxLen at c4;omega
 have x:(Al (l.drop (i+1))).length=(n-(i+1))*4:=by rw[Iw,G1,<-s]
 have F:∀j u,(Al (l.drop (i+1)))[j]?=some u->cur[(i+1)*4+j]?=some u:=λj u m=>by
  rw[QV,RX] at m;exact Ox s v (by omega) _ _ m
 obtain⟨f,q⟩:∃f,f=DI cur (i*4) (Al (l.drop (i+1))):=⟨_,rfl⟩;have K:f.length=cap*4:=by rw[q,KW (by omega)];exact c5
 have L:f.take ((n-1)*4)=Al (l.eraseIdx i):=by
  have h:=Q0 (cur:=cur) (cs:=Al (l.drop (i+1))) (o:=i*4) (by omega);rw[x,show i*4+(n-(i+1))*4=(n-1)*4 by omega,<-q] at h;rw[h,List.eraseIdx_eq_take_drop_succ,Mk];congr 1;rw[QU,<-v,L4,HR (by omega)]
 have y:∀a d c,(∀j u,(Al (l.drop (i+1)))[j]?=some u->w.drew.cell? (d.add j)=some u)->
  (Builtin.append_ #[45,45] a #[.slice (some ⟨g,0,none⟩) i cap, .slice (some d) (n-(i+1)) c]).run prog w.drew= .ok (.slice (some ⟨g,0,none⟩) (n-1) cap) (w.drew.setRow g f.toArray):=λa d c U=>by
  have:=gS w.drew (P:=prog) 45 a 47 i0 4 underlying45 T V g i cap cur 47 c2 d (n-(i+1)) c (Al (l.drop (i+1))) x U (Oh _) (by omega) (by omega);rw[q,this,show i+(n-(i+1))=n-1 by omega]
 obtain⟨b,p⟩:∃b,b=w.drew.setRow g f.toArray:=⟨_,rfl⟩;have z:b.heap[g]?=some (.cells f.toArray 47 (0,0)):=by rw[p];exact setRow_heap w.drew g cur.toArray f.toArray 47 (0,0) c2
 have G:Below B w b:=by rw[p];exact KY ((A2 _ _).drew) (by omega) _
 obtain⟨k,r⟩:∃k,k=DI f ((n-1)*4) (Bn Q4):=⟨_,rfl⟩;have I:∀a,(Builtin.clear_ #[45] a #[.slice (some ⟨g,(n-1)*4,none⟩) 1 (cap-(n-1))]).run prog b= .ok (.tuple #[]) (b.setRow g k.toArray):=λa=>by
  rw[r];exact gU b 45 47 a _ (Bn Q4) underlying45 gV gW (Ov _) g ((n-1)*4) _ f 47 z (by show(n-1)*4+4<=_;omega)
 have J:(b.setRow g k.toArray).ownsRow base 47 4 (.slice (some ⟨g,0,none⟩) (n-1) cap) (n-1) (Al (l.eraseIdx i)):=by
  refine Ou c1 (setRow_heap b g f.toArray k.toArray 47 (0,0) z) (by omega) c4 ?_ ?_
  ·rw[r,KW (by show(n-1)*4+4<=_;omega)];exact K
  ·rw[r,VK (by omega) (A1 _)];exact L
 have H:Below B w (b.setRow g k.toArray):=KY G (by omega) _;rw[<-p] at y;obtain⟨t,D,C,E⟩:=Hx4 J H y I;have Q:Hid (∀j u,(Al (l.drop (i+1)))[j]?=some u->w.drew.cell? ((⟨g,(i+1)*4,none⟩:Addr).add j)=some u):=λj u m=>by
  rw[Bo];have:=F j u m;show w.cell? _=_;rw[H6 c2];exact this
 have a5:(((n-1:Nat)):Int)=(n:Int) -1:=by omega
 have ab:((i:Int)+1).toNat=i+1:=by omega
 have X:(i:Int)+1<=(n:Int):=by omega
 have g1:(0:Int)<=(i:Int):=by omega
 have g2:(n:Int)<=(cap:Int):=by omega
 have W:((i:Int)==(i:Int)+1)=false:=by simp;omega
 have a8:(n-1:Nat)<cap:=by omega
 clear A c1 c2 v F y I J H G z L K r x p q;have R:=A0 s;clear s;have Y:(i:Int)<=(cap:Int):=by omega
 have Z:(0:Int)<=(i:Int)+1:=by omega
 have a0:(i:Int)<=(i:Int)+1:=by omega
 have a9:n-(n-1)=1:=by omega
 have aa:i+1-i=1:=by omega
 by_cases S:cap=i+1
 ·subst S;obtain rfl:n=i+1:=by omega
  have O:Hid (∀(d:Addr) (j:Nat) (u:Value),(Al (l.drop (i+1)))[j]?=some u->w.drew.cell? (d.add j)=some u):=λd j u m=>by
   have:(Al (l.drop (i+1))).length=0:=by rw[Iw,G1,<-R.out];simp
   rw[FA.1 this] at m;simp at m
  have M:Hid (∀a d c,(Builtin.append_ #[45,45] a #[.slice (some ⟨g,0,none⟩) i (i+1), .slice (some d) 0 c]).run prog w.drew= .ok (.slice (some ⟨g,0,none⟩) i (i+1)) b):=λa d c=>by
   have:=C a d c (O d);rw[Hr,S0] at this;exact this
  have N:Hid (∀a,(Builtin.clear_ #[45] a #[.slice (some ⟨g,i*4,none⟩) 1 1]).run prog b= .ok (.tuple #[]) (b.setRow g k.toArray)):=λa=>by
   have:=E a;rw[S0,show i+1-i=1 by omega] at this;exact this
  rw[S0] at t⊢;go_enter func298,ntmps298;go_wp2_with fail
  go_region_law ((refine VM (by rfl) (.tmp 22) (.tmp 25) 45 45 (by rfl) (.slice (some ⟨g,0,none⟩) i (i+1)) (.slice (some ⟨g,0,none⟩) 0 0) (by simp[Act.eval,Act.put]) (by simp[Act.eval,Act.put]) (M _ ⟨g,0,none⟩ 0) ?_))
  go_wp2_with (first|(refine VL rfl _ 45 rfl _ rfl (N _) ?_))
  go_ret;exact⟨rfl,t,D⟩
 ·go_enter func298,ntmps298;go_wp2_with fail
  go_region_law ((refine VM (by rfl) (.tmp 22) (.tmp 25) 45 45 (by rfl) (.slice (some ⟨g,0,none⟩) i cap) (.slice (some ⟨g,(i+1)*4,none⟩) (n-(i+1)) (cap-(i+1))) (by simp[Act.eval,Act.put]) (by simp[Act.eval,Act.put]) (C _ _ _ Q) ?_))
  go_wp2_with (first|(refine VL rfl _ 45 rfl _ rfl (E _) ?_))
  go_ret;exact⟨rfl,t,D⟩
end
end Go.Proofs.YtmajkjjjfodhlaaGreatDoor
