/- Part Max. No condition of its own. -/
import Derived.Test.YtmajkjjjfodhlaaGreatDoorMaw
namespace Go.Proofs.YtmajkjjjfodhlaaGreatDoor
open Go.RowKit Tryz Go.Shelf
set_option linter.all false
set_option maxRecDepth 100000
set_option maxHeartbeats 8000000
theorem Xt(d:Dk)(mt g a:Int)(vs:List Vl)(hk:EF d mt g a vs)(aj:d.keep.length<=10000000)(hf:d.fuse= -1)(hd:d.dead=false)(o n p j:Value)(u x y z A C:Value)(w:World)(l:By w o n p d)(m:CU w j vs)(a0:D5 vs):
 Calls prog 34 #[Bm o n p d, .agg #[u,x,y,z,A, mt, g, a,j,C]] w λe w'=>∃a3 a2 a4,e= .returned (.tuple #[Bm a3 a2 a4 (BB d mt g a vs), .int .i64 0])/\(∀r,Ac w' r (λk=>k<w.heap.size)->By r a3 a2 a4 (BB d mt g a vs))/\Below w w w':=by
 obtain⟨b0,b1,b2,c,t⟩:=Xi w [o,n, d.fuse,p, .bool d.dead] [u,x,y,z,A, mt, g, a,j,C] [.slice none 0 0, .slice none 0 0, .int .i64 0, .slice none 0 0, .bool false] 27 31 27;obtain⟨aa,a7,a9,N,R,J,K,L,S,V⟩:=Hx10 hk hd hf (l.below c) (EJ m c) b0 b1 b2 c t;have al:=b1.cell 8 rfl;have ab:=A0 a0;clear a0 hk hd hf l m b0 b1 b2 c t;go_enter func34,ntmps34;go_wp2_with fail;have b0:=J.out;have b1:=K.out;have b2:=L.out;have c:=S.out;have t:=V.out;have l:=N.out;have m:=R.out;clear J K L S V N R al;generalize ((w.alloc (.cells #[o,n, d.fuse,p, .bool d.dead] 27)).alloc (.cells #[u,x,y,z,A, mt, g, a,j,C] 31)).alloc (.cells #[.slice none 0 0, .slice none 0 0, .int .i64 0, .slice none 0 0, .bool false] 27)=ac at*;refine(Xs j vs ac m ab).mono ?_;rintro e f ⟨rfl,h⟩;have ak:w.heap.size+3<=f.heap.size:=by have:=h.size;omega
 have Z:=Aa.new f [.string (Ap vs)] 9;have i:Below f f (f.alloc (.cells #[.string (Ap vs)] 9)):=(A2 _ f).alloc (A1 _) _;have c0:=(b0.below h).below i;have c1:=(b1.below h).below i;have c2:=(b2.below h).below i;have Y:=lu d _ mt g a vs aa aj a9 a7 rfl o n p (w+1) f.heap.size u x y z A j C _ c1 Z ((l.below h).below i);have av:∀(W:Fn) (first cap:Array Value) (w:World),(Instr.makeFunc W first cap).run prog w= .ok (.func W first cap) w:=λ_ _ _ _=>rfl;obtain⟨D,a6,M,P,I⟩:=Hx5 ((c.trans (h.mono c.size)).trans (i.mono (by omega))) c0 c2 ak Y;have ad:=c0.five;clear b0 b1 b2 c t l m h Z i c0 c1 c2 Y;obtain⟨f0,f1,f2,f3,f4⟩:=ad;generalize X:BB d mt g a vs=b at*;have O:=A0 X;clear X;go_wp2_with fail;refine I.mono ?_;rintro e a5 ⟨ay,ax,aC,rfl,G,H⟩;have s:=G a5 (AW _ _);obtain⟨a1,c1,rfl⟩:=AK s.kept;obtain⟨E,c2,rfl⟩:=AK s.cache;obtain⟨F,c3,rfl⟩:=AK s.keep;have q:=M.below H;have hp:=q.put5 (.slice a1 b.kept.length c1) (.slice E b.cache.length c2) (.int .i64 b.fuse) (.slice F b.keep.length c3) (.bool b.dead);obtain⟨af,g1,g2,ag,ah⟩:=q.five;obtain⟨an,ao,ap,aq,ar⟩:=q.five';obtain⟨Q,a8,T,U⟩:=Hx4 hp G (D.trans (H.mono D.size)) (Bx f (.cells #[.string (Ap vs)] 9));clear hp G s q H I a6 M D f0 f1 f2 f3 f4;go_wp2_with fail;obtain⟨h1,h2⟩:=Q.out;clear Q af g1 g2 ag ah an ao ap aq ar;generalize ((((a5.setCell ⟨w+1+1,0,none⟩ (.slice a1 b.kept.length c1)).setCell ⟨w+1+1,1,none⟩ (.slice E b.cache.length c2)).setCell ⟨w+1+1,2,none⟩ (.int .i64 b.fuse)).setCell ⟨w+1+1,3,none⟩ (.slice F b.keep.length c3)).setCell ⟨w+1+1,4,none⟩ (.bool b.dead)=au at*;obtain⟨f0,f1,f2,f3,f4⟩:=h1.five;refine A5 (v:= .tuple #[Bm (.slice a1 b.kept.length c1) (.slice E b.cache.length c2) (.slice F b.keep.length c3) b, .int .i64 0]) (by simp[results,results34,go_sem,f0,f1,f2,f3,f4]) rfl ?_;exact⟨_,_,_,by rw[O.out],λr ai=>by rw[O.out];exact a8 r ((h2.mono (λk _ e=>by have:=P.out;rw[U.out];omega)).trans (ai.mono (λk _ e=>by have:=P.out;rw[U.out];omega))),T.trans (h2.below (B:=w.heap.size) T.size (λk e=>by omega))⟩
theorem St.set{w a:World}{c:List Value}{T:TypeId}{l:List (List Value×TypeId)}(h:St w a ((c,T)::l))(i:Nat)(v:Value):St w (a.setCell ⟨w,i,none⟩ v) ((c.set i v,T)::l):=
 ⟨h.bl.trans ((Ad a w.heap.size i v).below h.bl.size λk hk=>by rw[hk];exact A1 _),by rw[Hj];exact h.size,h.bs.1.set i v,h.bs.2.grs (Ad a w.heap.size i v) λk hk=> .inl (by omega)⟩
theorem Xu(w:World):Calls prog 209 #[.slice none 0 0] w λe w'=>e= .returned (.slice none 0 0)/\Below w w w':=by
 have b:=λa:World=>E3 (P:=prog) a 74 76 none 0 0 0 0 underlying74;go_enter func209,ntmps209;go_wp2_with fail;go_ret;exact⟨rfl,A2 _ _⟩
theorem lv{w0:World}{n:NS}{t:Tr}(h:Bp w0 n t)(w:World)(l:Below w0 w0 w):
 Calls prog 177 #[.agg #[sv n.1,sv n.2.1,sv n.2.2]] w λe w'=>∃m:NS,e= .returned (.agg #[sv m.1,sv m.2.1,sv m.2.2])/\NodeP w' (λb=>w<=b) m t/\Below w w w':=by
 obtain⟨h0,h1,h2,Q⟩:=RB h;obtain⟨⟨a0,n0,F⟩,⟨a1,H,G⟩,R⟩:=n;obtain rfl:R=z3:=h2;dsimp only[sv] at h0 h1⊢;obtain⟨B,O,T,g⟩:=FZ w [([Value.slice a0 n0 F, .slice a1 H G, .slice none 0 0],76),([Value.slice none 0 0, .slice none 0 0, .slice none 0 0],76)];dsimp only[DM] at O;have Y:w.heap.size+2<=B.heap.size:=g.size;obtain⟨I,J⟩:=Hx2 h0 h1;clear h h0 h1;have c0:=l.trans (g.bl.mono l.size);obtain⟨f0,f1,f2,j,g1,g2⟩:=g.bs.1.three;go_enter func177,ntmps177;go_wp2_with fail;refine(La (a0,n0,F) _ I B c0).mono ?_;rintro e C ⟨⟨b0,f,d⟩,rfl,i0,E⟩;have p:=g.call E;have i0:=Dm i0 (Ad C w.heap.size 0 (.slice b0 f d)) λb hb e=>by have:=hb.1;omega
 have i:=p.set 0 (.slice b0 f d);obtain⟨f0,f1,f2,j,g1,g2⟩:=p.bs.1.three;clear E p c0;go_wp2_with fail;generalize C.setCell _ _=D at*;have c3:=l.trans (i.bl.mono l.size);refine(La (a1,H,G) _ J D c3).mono ?_;rintro e u ⟨⟨b1,c,a⟩,rfl,i1,y⟩;have q:=i.call y;have h3:w.heap.size+2<=D.heap.size:=i.size;have i0:=Dm (Dm i0 (Ai y) λ_ _ h=>h) (Ad u w.heap.size 1 (.slice b1 c a)) λb hb e=>by have:=hb.1;omega
 have i1:=Dm i1 (Ad u w.heap.size 1 (.slice b1 c a)) λb hb e=>by have:=hb.1;omega
 have A:=q.set 1 (.slice b1 c a);obtain⟨f0,f1,f2,j,g1,g2⟩:=q.bs.1.three;clear y q i c3;go_wp2_with fail;generalize u.setCell _ _=L at*;refine(Xu L).mono ?_;rintro e x ⟨rfl,k⟩;have r:=A.call k;have i0:=Dm (Dm i0 (Ai k) λ_ _ h=>h) (Ad x w.heap.size 2 (.slice none 0 0)) λb hb e=>by have:=hb.1;omega
 have i1:=Dm (Dm i1 (Ai k) λ_ _ h=>h) (Ad x w.heap.size 2 (.slice none 0 0)) λb hb e=>by have:=hb.1;omega
 have s:=r.set 2 (.slice none 0 0);obtain⟨f0,f1,f2,j,g1,g2⟩:=r.bs.1.three;clear k r A;go_wp2_with fail;generalize x.setCell _ _=M at*;refine En λK N=>?_;clear N;obtain⟨f0,f1,f2,j,g1,g2⟩:=s.bs.1.three;obtain⟨U,d1,d2,V,W,X⟩:=s.bs.2.1.three;have o:=A0 s;go_wp2_with fail;have P:=((o.bs.2.1.set 0 (.slice b0 f d)).set 1 (.slice b1 c a)).set 2 (.slice none 0 0);obtain⟨S,t1,t2,_⟩:=P.three;have z:=((Ad M (w+1) 0 (.slice b0 f d)).trans (Ad _ (w+1) 1 (.slice b1 c a))).trans (Ad _ (w+1) 2 (.slice none 0 0));refine A5 (v:= .agg #[.slice b0 f d, .slice b1 c a, .slice none 0 0]) (by simp[results,results177,go_sem,S,t1,t2]) rfl ⟨((b0,f,d),(b1,c,a),z3),rfl,?_,o.bl.trans (z.below o.bl.size λb hb=>by omega)⟩;exact Dq (RC (Dm (K8 i0 λb _ hb=>(by have:=hb.1;omega:w.heap.size+2<=b)) z λb hb e=>by omega) (Dm (K8 i1 λb _ hb=>(by have:=hb.1;omega:w.heap.size+2<=b)) z λb hb e=>by omega) Q) λb _ hb=>by omega
abbrev Ks(s:S3):List Value:=[sv s]
theorem RP:Em Ks 1:=⟨by decide,λ_=>rfl,λx u a=>by simp at a;rcases a with rfl;rfl⟩
abbrev MB:=Int×ByteArray
abbrev BR(b:MB):List Value:=[b.1, .string b.2]
theorem IC:Em BR 2:=⟨by decide,λ_=>rfl,λx u a=>by simp at a;rcases a with rfl|rfl<;>rfl⟩
abbrev IE:=Int×Int×S3
abbrev Ej(v:IE):List Value:=[v.1, v.2.1,sv v.2.2]
theorem Gl:Em Ej 3:=⟨by decide,λ_=>rfl,λx u a=>by simp at a;rcases a with rfl|rfl|rfl<;>rfl⟩
theorem lw:(prog.info? 47).map (λi=>(i.zero,i.size,i.bytes))=some (some (.agg #[.int .i64 0, .int .i64 0, .int .i64 0, .bool false]),4,32):=by kernel_rfl
theorem Xv(v:Value)(l:List (Us))(w:World)(b:Av w v 4 Bn l)(hl:l.length<=10000000):
 Calls prog 117 #[v] w λe w'=>∃a c,e= .returned (.slice a l.length c)/\w'.ownsRow w.heap.size 47 4 (.slice a l.length c) l.length (Af Bn l)/\Below w w w':=by
 obtain⟨i0,o,r,s,t⟩:=BW lw;obtain⟨j,m,rfl,u,p,_⟩:=id b;obtain⟨g,h⟩:=Hx2 (Is w 47 4) (Aj b ((A2 _ _).alloc (A1 _) (.cells #[] 47)));cases j with
 |none=>
  obtain rfl:=p rfl;obtain rfl:l=[]:=FA.1 (by omega);have q:=λf:World=>E3 (P:=prog) f 45 47 none 0 0 0 0 underlying45;clear b;go_enter func117,ntmps117;go_wp2_with fail;go_ret;exact⟨none,0,rfl,C2 _ _ _ _,A2 _ _⟩
 |some a=>
  have q:=λf:World=>E3 (P:=prog) f 45 47 (some a) l.length m 0 0 underlying45;clear b;go_enter func117,ntmps117;go_wp2_with (at_builtin;refine IU RI (ys:=l) rfl _ _ 45 rfl w.heap.size 47 i0 _ 32 underlying45 o r s t rfl _ 0 _ rfl g _ rfl h (by simp[maxLen];omega) (by omega) (by simp) ?_;intro x w' d n _)
  rw[B2,B7] at d;obtain⟨i,c2,rfl,_,_⟩:=Aw d;have hb:Below w w w':=((A2 _ _).alloc (A1 _) _).grown n (by simp) (λk hk=>Ah g k hk);go_ret;exact⟨i,c2,rfl,d,hb⟩
theorem lx:(prog.info? 45).map (λi=>(i.zero,i.size,i.bytes))=some (some (.slice none 0 0),1,24):=by kernel_rfl
theorem Xw(v:Value)(l:List (S3))(w:World)(b:Av w v 1 Ks l)(hl:l.length<=10000000):
 Calls prog 116 #[v] w λe w'=>∃a c,e= .returned (.slice a l.length c)/\w'.ownsRow w.heap.size 45 1 (.slice a l.length c) l.length (Af Ks l)/\Below w w w':=by
 obtain⟨i0,o,r,s,t⟩:=BW lx;obtain⟨j,m,rfl,u,p,_⟩:=id b;obtain⟨g,h⟩:=Hx2 (Is w 45 1) (Aj b ((A2 _ _).alloc (A1 _) (.cells #[] 45)));cases j with
 |none=>
  obtain rfl:=p rfl;obtain rfl:l=[]:=FA.1 (by omega);have q:=λf:World=>E3 (P:=prog) f 29 45 none 0 0 0 0 underlying29;clear b;go_enter func116,ntmps116;go_wp2_with fail;go_ret;exact⟨none,0,rfl,C2 _ _ _ _,A2 _ _⟩
 |some a=>
  have q:=λf:World=>E3 (P:=prog) f 29 45 (some a) l.length m 0 0 underlying29;clear b;go_enter func116,ntmps116;go_wp2_with (at_builtin;refine IU RP (ys:=l) rfl _ _ 29 rfl w.heap.size 45 i0 _ 24 underlying29 o r s t rfl _ 0 _ rfl g _ rfl h (by simp[maxLen];omega) (by omega) (by simp) ?_;intro x w' d n _)
  rw[B2,B7] at d;obtain⟨i,c2,rfl,_,_⟩:=Aw d;have hb:Below w w w':=((A2 _ _).alloc (A1 _) _).grown n (by simp) (λk hk=>Ah g k hk);go_ret;exact⟨i,c2,rfl,d,hb⟩
theorem ly:(prog.info? 106).map (λi=>(i.zero,i.size,i.bytes))=some (some (.agg #[.int .i64 0, .string ⟨#[]⟩]),2,24):=by kernel_rfl
theorem Xx(v:Value)(l:List (MB))(w:World)(b:Av w v 2 BR l)(hl:l.length<=10000000):
 Calls prog 187 #[v] w λe w'=>∃a c,e= .returned (.slice a l.length c)/\w'.ownsRow w.heap.size 106 2 (.slice a l.length c) l.length (Af BR l)/\Below w w w':=by
 obtain⟨i0,o,r,s,t⟩:=BW ly;obtain⟨j,m,rfl,u,p,_⟩:=id b;obtain⟨g,h⟩:=Hx2 (Is w 106 2) (Aj b ((A2 _ _).alloc (A1 _) (.cells #[] 106)));cases j with
 |none=>
  obtain rfl:=p rfl;obtain rfl:l=[]:=FA.1 (by omega);have q:=λf:World=>E3 (P:=prog) f 82 106 none 0 0 0 0 underlying82;clear b;go_enter func187,ntmps187;go_wp2_with fail;go_ret;exact⟨none,0,rfl,C2 _ _ _ _,A2 _ _⟩
 |some a=>
  have q:=λf:World=>E3 (P:=prog) f 82 106 (some a) l.length m 0 0 underlying82;clear b;go_enter func187,ntmps187;go_wp2_with (at_builtin;refine IU IC (ys:=l) rfl _ _ 82 rfl w.heap.size 106 i0 _ 24 underlying82 o r s t rfl _ 0 _ rfl g _ rfl h (by simp[maxLen];omega) (by omega) (by simp) ?_;intro x w' d n _)
  rw[B2,B7] at d;obtain⟨i,c2,rfl,_,_⟩:=Aw d;have hb:Below w w w':=((A2 _ _).alloc (A1 _) _).grown n (by simp) (λk hk=>Ah g k hk);go_ret;exact⟨i,c2,rfl,d,hb⟩
theorem lz:(prog.info? 84).map (λi=>(i.zero,i.size,i.bytes))=some (some (.agg #[.int .i64 0, .int .i64 0, .slice none 0 0]),3,40):=by kernel_rfl
theorem lA(v:Value)(l:List (IE))(w:World)(b:Av w v 3 Ej l)(hl:l.length<=10000000):
 Calls prog 249 #[v] w λe w'=>∃a c,e= .returned (.slice a l.length c)/\w'.ownsRow w.heap.size 84 3 (.slice a l.length c) l.length (Af Ej l)/\Below w w w':=by
 obtain⟨i0,o,r,s,t⟩:=BW lz;obtain⟨j,m,rfl,u,p,_⟩:=id b;obtain⟨g,h⟩:=Hx2 (Is w 84 3) (Aj b ((A2 _ _).alloc (A1 _) (.cells #[] 84)));cases j with
 |none=>
  obtain rfl:=p rfl;obtain rfl:l=[]:=FA.1 (by omega);have q:=λf:World=>E3 (P:=prog) f 56 84 none 0 0 0 0 underlying56;clear b;go_enter func249,ntmps249;go_wp2_with fail;go_ret;exact⟨none,0,rfl,C2 _ _ _ _,A2 _ _⟩
 |some a=>
  have q:=λf:World=>E3 (P:=prog) f 56 84 (some a) l.length m 0 0 underlying56;clear b;go_enter func249,ntmps249;go_wp2_with (at_builtin;refine IU Gl (ys:=l) rfl _ _ 56 rfl w.heap.size 84 i0 _ 40 underlying56 o r s t rfl _ 0 _ rfl g _ rfl h (by simp[maxLen];omega) (by omega) (by simp) ?_;intro x w' d n _)
  rw[B2,B7] at d;obtain⟨i,c2,rfl,_,_⟩:=Aw d;have hb:Below w w w':=((A2 _ _).alloc (A1 _) _).grown n (by simp) (λk hk=>Ah g k hk);go_ret;exact⟨i,c2,rfl,d,hb⟩
theorem Ld{e:Type}{E:e->List Value}{k:Nat}(b:Em E k):∀(l:List e) (i:Nat) (a:i<l.length) (j:Nat) (u:Value) (x:e),j<k->E x=(E l[i]).set j u->(Af E l).set (i*k+j) u=Af E (l.set i x)
 |[],i,a,_,_,_,_,_=>by simp at a
 |y::l,0,a,j,u,x,c,d=>by
  rw[Nat.zero_mul,B2,HM,Jz,Jz,List.set_append_left _ _ (by rw[b.len];exact c),d];rfl
 |y::l,i+1,a,j,u,x,c,d=>by
  have h:=Ld b l i (by simpa using a) j u x c d;rw[G3,Jz,Jz,PL _ _ (by rw[b.len,S7];omega),b.len,<-h];congr 2;rw[S7];omega
theorem lB(a:List V5)(i:Nat)(b:i<a.length)(s:NS):(((Af DZ a).set (i*5+2) (sv s.1)).set (i*5+3) (sv s.2.1)).set (i*5+4) (sv s.2.2)=Af DZ (a.set i (a[i].1,a[i].2.1,s)):=by
 rw[Ld Gw a i b 2 (sv s.1) (a[i].1,a[i].2.1,s.1,a[i].2.2.2) (by omega) rfl];rw[Ld Gw _ i (by rw[Di];exact b) 3 (sv s.2.1) (a[i].1,a[i].2.1,s.1,s.2.1,a[i].2.2.2.2) (by omega) (by rw[VB];rfl),List.set_set];rw[Ld Gw _ i (by rw[Di];exact b) 4 (sv s.2.2) (a[i].1,a[i].2.1,s) (by omega) (by rw[VB];rfl),List.set_set]
def GR(base:Nat)(w0 d:World)(g:Option Addr)(c:Nat)(vs:List Vl)(i:Nat):Prop:=
 ∃a:List V5,a.length=vs.length/\d.ownsRow base 78 5 (.slice g vs.length c) vs.length (Af DZ a)/\
  ∀j (e:j<a.length) (hk:j<vs.length),(a[j].1=vs[j].1/\a[j].2.1=vs[j].2.1)/\(j<i->NodeP d (λb=>base<=b/\(Value.slice g vs.length c).ownBlock≠some b) (a[j].2.2) vs[j].2.2)/\(i<=j->Bp w0 (a[j].2.2) vs[j].2.2)
theorem MH{base:Nat}{w0 e f:World}{g:Option Addr}{c i:Nat}{vs:List Vl}{R:Nat->Prop}(h:GR base w0 e g c vs i)(k:Ac e f R)(hr:∀b,R b->b<base):GR base w0 f g c vs i:=by
 obtain⟨l,h1,h2,h3⟩:=h;exact⟨l,h1,k.owns h2 (λb hb a=>by have:=Ah h2 b hb;have:=hr b a;omega),λj d hk=>⟨(h3 j d hk).1,λh=>EU ((h3 j d hk).2.1 h) k (λb hb a=>by have:=hr b a;omega),(h3 j d hk).2.2⟩⟩
theorem Xy{base:Nat}{w0 d:World}{g:Option Addr}{c:Nat}{vs:List Vl}{a:List V5}(h1:a.length=vs.length)(h2:d.ownsRow base 78 5 (.slice g vs.length c) vs.length (Af DZ a))(h3:∀j (b:j<a.length) (hk:j<vs.length),a[j].1=vs[j].1/\a[j].2.1=vs[j].2.1/\Bp w0 (a[j].2.2) vs[j].2.2):GR base w0 d g c vs 0:=
 ⟨a,h1,h2,λj b hk=>⟨⟨(h3 j b hk).1,(h3 j b hk).2.1⟩,λh=>absurd h (by omega),λ_=>(h3 j b hk).2.2⟩⟩
theorem Xz{base:Nat}{w0 a:World}{g:Option Addr}{c i:Nat}{vs:List Vl}(h:GR base w0 a g c vs i):∃cs,a.ownsRow base 78 5 (.slice g vs.length c) vs.length cs:=by
 obtain⟨b,_,h,_⟩:=h;exact⟨_,h⟩
theorem O3{base:Nat}{w0 a:World}{g:Option Addr}{c i:Nat}{vs:List Vl}(h:GR base w0 a g c vs i)(f:i<vs.length):
 ∃(b:Nat) (s:NS),g=some ⟨b,0,none⟩/\base<=b/\b<a.heap.size/\a.cell? ⟨b,i*5+2,none⟩=some (sv s.1)/\a.cell? ⟨b,i*5+3,none⟩=some (sv s.2.1)/\a.cell? ⟨b,i*5+4,none⟩=some (sv s.2.2)/\(∀j,a.frozen? ⟨b,j,none⟩=false)/\Bp w0 (s) vs[i].2.2:=by
 obtain⟨d,h1,h2,h3⟩:=h;obtain⟨b,rfl,hb⟩:=EM h2 (by omega);have e:i<d.length:=by omega
 have hc:=λj k=>DB Gw d i e j k;exact⟨b,d[i].2.2,rfl,hb,AM h2 b rfl,(BQ h2 (hc 2 (by omega))).1,(BQ h2 (hc 3 (by omega))).1,(BQ h2 (hc 4 (by omega))).1,λj=>On h2 rfl j,(h3 i e f).2.2 (A1 _)⟩
theorem XA{base:Nat}{w0 d a:World}{b c i:Nat}{vs:List Vl}(h:GR base w0 d (some ⟨b,0,none⟩) c vs i)(t:i<vs.length)(q:Below d d a)(s:NS)(hs:NodeP a (λx=>d<=x) (s) vs[i].2.2):
 GR base w0 (((a.setCell ⟨b,i*5+2,none⟩ (sv s.1)).setCell ⟨b,i*5+3,none⟩ (sv s.2.1)).setCell ⟨b,i*5+4,none⟩ (sv s.2.2)) (some ⟨b,0,none⟩) c vs (i+1):=by
 have p:=MH h (Ai q) (λ_ h=>h.elim);have r:base<=b/\b<d.heap.size:=by
  obtain⟨l,_,h2,_⟩:=h;exact⟨Ah h2 b rfl,AM h2 b rfl⟩
 obtain⟨l,h1,h2,h3⟩:=p;have m:Ac a (((a.setCell ⟨b,i*5+2,none⟩ (sv s.1)).setCell ⟨b,i*5+3,none⟩ (sv s.2.1)).setCell ⟨b,i*5+4,none⟩ (sv s.2.2)) (λk=>k=b):=
  ((Ad a b (i*5+2) _).trans (Ad _ b (i*5+3) _)).trans (Ad _ b (i*5+4) _)
 have o:=Lc (Lc (Lc h2 (i*5+2) (sv s.1)) (i*5+3) (sv s.2.1)) (i*5+4) (sv s.2.2);rw[lB l i (by omega) s] at o;refine⟨_,by rw[Di,h1],o,λj n hk=>?_⟩;have f:j<l.length:=by rw[Di] at n;exact n
 rw[HC];by_cases e:i=j
 ·subst e;rw[A4 rfl];exact⟨(h3 i f hk).1,λ_=>EU (Dq hs λx _ g=>⟨by omega,λe=>by simp only[Value.ownBlock,Hs] at e;omega⟩) m (λx g hk=>by subst hk;exact g.2 rfl),λh=>absurd h (by omega)⟩
 ·rw[A3 e];exact⟨(h3 j f hk).1,λh=>EU ((h3 j f hk).2.1 (by omega)) m (λx g hk=>by subst hk;exact g.2 rfl),λh=>(h3 j f hk).2.2 (by omega)⟩
theorem XB:∀(a:List S3),Af Ks a=a.map sv
 |[]=>rfl
 |x::l=>by rw[Jz,F4,XB l];rfl
def Ib(base:Nat)(w0 b:World)(g:Option Addr)(c:Nat)(ls:List (List Us))(i:Nat):Prop:=
 ∃a:List S3,a.length=ls.length/\b.ownsRow base 45 1 (.slice g ls.length c) ls.length (Af Ks a)/\
  ∀j (d:j<a.length) (hk:j<ls.length),(a[j].2.1=ls[j].length)/\(j<i->b.ownsRow base 47 4 (sv a[j]) ls[j].length (Al ls[j]))/\(i<=j->AT w0 (sv a[j]) ls[j])
theorem Le{base:Nat}{w0 e f:World}{g:Option Addr}{c i:Nat}{ls:List (List Us)}{R:Nat->Prop}(h:Ib base w0 e g c ls i)(k:Ac e f R)(hr:∀b,R b->b<base):Ib base w0 f g c ls i:=by
 obtain⟨l,h1,h2,h3⟩:=h;exact⟨l,h1,k.owns h2 (λb hb d=>by have:=Ah h2 b hb;have:=hr b d;omega),λj a hk=>⟨(h3 j a hk).1,λh=>k.owns ((h3 j a hk).2.1 h) (λb hb d=>by have:=Ah ((h3 j a hk).2.1 h) b hb;have:=hr b d;omega),(h3 j a hk).2.2⟩⟩
theorem XC{base:Nat}{w0 d:World}{g:Option Addr}{c:Nat}{ls:List (List Us)}{a:List S3}(h1:a.length=ls.length)(h2:d.ownsRow base 45 1 (.slice g ls.length c) ls.length (Af Ks a))(h3:∀j (b:j<a.length) (hk:j<ls.length),a[j].2.1=ls[j].length/\AT w0 (sv a[j]) ls[j]):Ib base w0 d g c ls 0:=
 ⟨a,h1,h2,λj b hk=>⟨(h3 j b hk).1,λh=>absurd h (by omega),λ_=>(h3 j b hk).2⟩⟩
theorem XD{base:Nat}{w0 a:World}{g:Option Addr}{c:Nat}{ls:List (List Us)}(h:Ib base w0 a g c ls ls.length):Be a (.slice g ls.length c) ls:=by
 obtain⟨f,h1,h2,h3⟩:=h;rw[XB] at h2;exact Oo h2 (by rw[B4,h1]) λi b d=>by
  have e:i<f.length:=by rw[B4] at b;exact b
  rw[HJ];exact(ED ((h3 i e d).2.1 d)).1
theorem XE{base:Nat}{w0 a:World}{g:Option Addr}{c i:Nat}{ls:List (List Us)}(h:Ib base w0 a g c ls i):∃cs,a.ownsRow base 45 1 (.slice g ls.length c) ls.length cs:=by
 obtain⟨b,_,h,_⟩:=h;exact⟨_,h⟩
theorem O4{base:Nat}{w0 d:World}{g:Option Addr}{c i:Nat}{ls:List (List Us)}(h:Ib base w0 d g c ls i)(n:i<ls.length):
 ∃(b:Nat) (a:Option Addr) (e:Nat),g=some ⟨b,0,none⟩/\base<=b/\b<d.heap.size/\d.cell? ⟨b,i,none⟩=some (.slice a ls[i].length e)/\(∀j,d.frozen? ⟨b,j,none⟩=false)/\AT w0 (.slice a ls[i].length e) ls[i]:=by
 obtain⟨k,h1,h2,h3⟩:=h;obtain⟨b,rfl,hb⟩:=EM h2 (by omega);have f:i<k.length:=by omega
 have hc:=DB RP k i f 0 (by omega);have hl:=(h3 i f n).1;have o:=(h3 i f n).2.2 (A1 _);have m:=(BQ h2 hc).1;rw[J0,Hb] at m;generalize k[i]=s at*;obtain⟨a,l,e⟩:=s;dsimp only at hl;subst hl;exact⟨b,a,e,rfl,hb,AM h2 b rfl,m,λj=>On h2 rfl j,o⟩
theorem XF{base:Nat}{w0 f g:World}{b c i:Nat}{ls:List (List Us)}(h:Ib base w0 f (some ⟨b,0,none⟩) c ls i)(u:i<ls.length)(s:Below f f g)(a:Option Addr)(d:Nat)(hs:g.ownsRow f.heap.size 47 4 (.slice a ls[i].length d) ls[i].length (Al ls[i])):
 Ib base w0 (g.setCell ⟨b,i,none⟩ (.slice a ls[i].length d)) (some ⟨b,0,none⟩) c ls (i+1):=by
 have r:=Le h (Ai s) (λ_ h=>h.elim);have t:base<=b/\b<f.heap.size:=by
  obtain⟨m,_,h2,_⟩:=h;exact⟨Ah h2 b rfl,AM h2 b rfl⟩
 obtain⟨m,h1,h2,h3⟩:=r;have n:=Ad g b i (.slice a ls[i].length d);have p:=Lc h2 i (.slice a ls[i].length d);have q:=Ld RP m i (by omega) 0 (.slice a ls[i].length d) (a,ls[i].length,d) (by omega) rfl;rw[J0,Hb] at q;rw[q] at p;refine⟨_,by rw[Di,h1],p,λj o hk=>?_⟩;have k:j<m.length:=by rw[Di] at o;exact o
 rw[HC];by_cases e:i=j
 ·subst e;rw[A4 rfl];exact⟨rfl,λ_=>n.owns (Hm hs (by omega)) (λx l hk=>by subst hk;exact Cn hs h2 (by decide) _ l rfl),λh=>absurd h (by omega)⟩
 ·rw[A3 e];exact⟨(h3 j k hk).1,λh=>n.owns ((h3 j k hk).2.1 (by omega)) (λx l hk=>by subst hk;exact Cn ((h3 j k hk).2.1 (by omega)) h2 (by decide) _ l rfl),λh=>(h3 j k hk).2.2 (by omega)⟩
def Lf(lo e:Nat)(d:World)(g:Option Addr)(c:Nat)(vs:List Vl):Prop:=
 ∃a:List V5,a.length=vs.length/\d.ownsRow lo 78 5 (.slice g vs.length c) vs.length (Af DZ a)/\(∀b,(Value.slice g vs.length c).ownBlock=some b->b<e)/\
  ∀j (f:j<a.length) (hk:j<vs.length),(a[j].1=vs[j].1/\a[j].2.1=vs[j].2.1)/\NodeP d (λb=>lo<=b/\b<e) (a[j].2.2) vs[j].2.2
theorem XG{base:Nat}{w0 a:World}{g:Option Addr}{c:Nat}{vs:List Vl}(h:GR base w0 a g c vs vs.length):Lf base a.heap.size a g c vs:=by
 obtain⟨e,h1,h2,h3⟩:=h;exact⟨e,h1,h2,λb hb=>AM h2 b hb,λj d hk=>⟨(h3 j d hk).1,Dq ((h3 j d hk).2.1 hk) λb hb hp=>⟨hp.1,hb⟩⟩⟩
theorem GS{lo d:Nat}{e f:World}{g:Option Addr}{c:Nat}{vs:List Vl}{R:Nat->Prop}(h:Lf lo d e g c vs)(k:Ac e f R)(hr:∀b,R b->b<lo\/d<=b):Lf lo d f g c vs:=by
 obtain⟨m,h1,h2,i,h3⟩:=h;exact⟨m,h1,k.owns h2 (λb hb a=>by have:=Ah h2 b hb;have:=i b hb;have:=hr b a;omega),i,λj l hk=>⟨(h3 j l hk).1,EU (h3 j l hk).2 k (λb hb a=>by have:=hr b a;omega)⟩⟩
theorem XH{lo a:Nat}{d:World}{g:Option Addr}{c:Nat}{vs:List Vl}(h:Lf lo a d g c vs):CU d (.slice g vs.length c) vs:=by
 obtain⟨e,h1,h2,_,h3⟩:=h;exact⟨e,(CJ Gw h2).1,h1,λi a b=>⟨(h3 i a b).1.1,(h3 i a b).1.2,Dq (h3 i a b).2 λ_ _ _=>trivial⟩⟩
theorem XI{w:World}{v:Value}{ls:List (List Us)}(h:Be w v ls):∃c:List S3,c.length=ls.length/\Av w v 1 Ks c/\∀j (d:j<c.length) (hk:j<ls.length),c[j].2.1=ls[j].length/\AT w (sv c[j]) ls[j]:=by
 obtain⟨vs,h1,h2,h3⟩:=h;have p:∀(vs:List Value) (ls:List (List Us)),vs.length=ls.length->(∀i (f:i<vs.length) (d:i<ls.length),AT w vs[i] ls[i])->∃c:List S3,vs=c.map sv/\∀j (d:j<c.length) (hk:j<ls.length),c[j].2.1=ls[j].length/\AT w (sv c[j]) ls[j]:=by
  intro vs;induction vs with
  |nil=>intro ls _ _;exact⟨[],rfl,λj d=>by simp at d⟩
  |cons x vs q=>
   intro ls hl k;rcases ls with _|⟨l,ls⟩
   ·simp at hl
   ·have h0:=k 0 (by simp) (by simp);obtain⟨a,m,e,_⟩:=id h0;obtain⟨c,rfl,hm⟩:=q ls (by simpa using hl) (λi f d=>k (i+1) (by simpa using f) (by simpa using d));refine⟨(a,l.length,m)::c,by rw[F4];exact congrArg (·::_) e,λj d hk=>?_⟩;rcases j with _|j
    ·exact⟨rfl,by
      have g:=h0;simp only[H5] at g e⊢;rw[e] at g;exact g⟩
    ·exact hm j (by simpa using d) (by simpa using hk)
 obtain⟨c,rfl,hm⟩:=p vs ls h2 h3;refine⟨c,by simpa using h2,?_,hm⟩;obtain⟨a,cap,e,hl,o,hc⟩:=h1;refine⟨a,cap,by rw[e,B4],by simpa using hl,o,?_⟩;rcases hc with hc|⟨b,off,ha,hb,n⟩
 ·left;simpa using hc
 ·right;refine⟨b,off,ha,hb,λi f j d=>?_⟩;have:=n i (by simpa using f) j d;rw[this,HJ]
end Go.Proofs.YtmajkjjjfodhlaaGreatDoor
