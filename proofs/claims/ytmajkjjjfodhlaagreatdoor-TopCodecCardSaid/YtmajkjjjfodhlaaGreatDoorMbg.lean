/- Part Mbg. No condition of its own. -/
import Derived.Test.YtmajkjjjfodhlaaGreatDoorMbf
namespace Go.Proofs.YtmajkjjjfodhlaaGreatDoor
open Go.RowKit Tryz Go.Shelf
set_option linter.all false
set_option maxRecDepth 100000
set_option maxHeartbeats 8000000
theorem T2:type_of%@Int.tmod_eq_emod_of_nonneg:=@Int.tmod_eq_emod_of_nonneg
theorem mW{w:World}{base e k n g:Nat}{v:Value}{cs:List Value}(h:w.ownsRow base e k v n cs)(hb:v.ownBlock=some g):∃cur a,w.heap[g]?=some (.cells cur e a):=by
 rcases h.2 with⟨rfl,_⟩|⟨b,cap,cur,rfl,_,hc,_⟩
 ·cases hb
 ·simp only[Value.ownBlock,Hs] at hb;subst hb;exact⟨_,_,hc⟩
theorem mX{w:World}{n b:Nat}{e c f:Value}{d:Dk}(h:Ez w n e c f d)(a:b<=n):Ez w b e c f d:=⟨CI h.kept a,CI h.cache a,CI h.keep a⟩
theorem mY{w b:World}{n0 p:Nat}{i f j:Value}{d:Dk}{vs:List Value}{R:Nat->Prop}(h:Ez w n0 i f j d)(hp:Aa w p vs 31)(a:Ac w b R)(hr:∀k,R k->k<n0\/k=p):By b i f j d:=by
 have key:∀{e k n:Nat} {v:Value} {cs:List Value},w.ownsRow n0 e k v n cs->e≠31->∀g,v.ownBlock=some g->¬R g:=λ{e k n v cs} c m g hb l=>by
  rcases hr g l with h1|rfl
  ·have:=Ah c g hb;omega
  ·obtain⟨cur,o,hc⟩:=mW c hb;rw[show w.heap[g]?=_ from hp] at hc;injection hc with hc;injection hc with _ q _;exact m q.symm
 exact MC (n0:=n0) ⟨a.owns h.kept (key h.kept (by decide)),a.owns h.cache (key h.cache (by decide)),a.owns h.keep (key h.keep (by decide))⟩
structure Pa(d:Dk)(m c:Nat)(g a:Int)(vs:List Vl):Prop where
 ok:Bd d
 kp:d.keep.length≤10000000
 dead:d.dead=false
 cache:d.cache=[]
 len:d.kept.length=2+2*m+16*c
 c1:1≤c
 c2:c≤100
 m1:1≤m
 m2:m≤500
 img:Jp d.kept m g a vs
 oth:MG d.kept g a
 vols:D5 vs
 pool:AR (C5 d m g a vs c)
theorem Yc(g0 fv g4:Value)(d:Dk)(m c:Nat)(g a:Int)(vs:List Vl)(R:Nat->Prop)(w:World)(a4:Cx w R)(h:By w g0 fv g4 d)(E:Pa d m c g a vs):
 Calls prog 22 #[Bm g0 fv g4 d, .int .i64 m] w λe w'=>∃g3 fz g5 g7 g6,e= .returned (.tuple #[AO g3 fz g5 g7 g6 (C5 d m g a vs c), .int .i64 0])/\(∀G,Ac w' G R->AH G g3 fz g5 g7 g6 (C5 d m g a vs c))/\Below w w w':=by
 obtain⟨I,M,rfl⟩:=AK h.kept;obtain⟨H,L,rfl⟩:=AK h.cache;obtain⟨J,N,rfl⟩:=AK h.keep;have f7:=E.len;have he:=E.c1;have hP:=E.c2;have hR:=E.m1;have hS:=E.m2;have hT:d.kept.length<=2602:=by omega
 have d6:=A0 (λs (aL:Below w w s)=>KS _ _ _ d s (h.below aL) E.ok);obtain⟨K,o⟩:∃K:Nat->ByteArray,∀x,K x=d.kept.getD x ByteArray.empty:=⟨λx=>d.kept.getD x ByteArray.empty,λ_=>rfl⟩;have bx:Hid (∀(x:Nat) (ch:Int) s,ch=(x:Int)->Below w w s->x<d.kept.length->Calls prog 56 #[.agg #[.slice I d.kept.length M, .slice H d.cache.length L, .int .i64 d.fuse, .slice J d.keep.length N, .bool false], .int .i64 ch] s λe w'=>e= .returned (.tuple #[.string (K x), .int .i64 0])/\Below s s w'):=λx ch s hm aL hl=>by
  subst hm;have q:=Wv _ _ _ d x s (h.below aL) E.ok E.dead hl;unfold Bm at q;rw[E.dead,Jo E.cache,<-o] at q;exact q
 have bw:=A0 o;clear o;obtain⟨z,gx,gf⟩:=Hx3 E a4 h;obtain⟨b0,b1,ea,hn⟩:=Xh w [.slice I d.kept.length M, .slice H d.cache.length L, .int .i64 d.fuse, .slice J d.keep.length N, .bool d.dead] Bz 27 31;obtain⟨cP,cS,aV⟩:=Hx3 b0 b1 ea;have g1:decide ((m:Int)<1)=false:=A6 (by omega);have g2:decide ((500:Int)<(m:Int))=false:=A6 (by omega);have b2:=A0 f7;clear b0 b1 ea a4 h E f7;go_enter func22,ntmps22;go_wp2_with fail;refine(d6 _ aV).mono ?_;rintro e aM ⟨rfl,ay⟩;obtain⟨cw,cx,bK⟩:=Hx3 (cP.below ay) (cS.below ay) (aV.trans (ay.mono aV.size));have f6:w.heap.size+2<=aM.heap.size:=by have:=ay.size;simp only[Bx] at this;omega
 clear ay cP cS aV d6 hn;go_wp2_with fail;refine BM (S:=λr=>Aa r w.heap.size [.slice I d.kept.length M, .slice H d.cache.length L, .int .i64 d.fuse, .slice J d.keep.length N, .bool d.dead] 27) (by kernel_rfl) 7 rfl cw.drew (λl=>?_);have C:=(A2 aM.heap.size aM).drew;obtain⟨cy,Z,bP⟩:=Hx3 (cx.drew) (bK.trans (C.mono bK.size)) (show w.heap.size+2<=aM.drew.heap.size from f6);clear cw cx bK C f6;generalize aM.drew=r at*;have c9:IntKind.i64.wrap ((d.kept.length:Int) -(2+(m:Int)*2))=16*(c:Int):=by
  rw[show(d.kept.length:Int) -(2+(m:Int)*2)=16*(c:Int) by have:=b2.out;omega];exact C0 _ (by omega)
 refine Ab 0 l ?_;refine Ab 1 l ?_ (hy:=by intro w' t;have q:=t.cell 0 rfl;go_simp;with_reducible rfl);refine Px ?_;refine Ab 2 l ?_;refine Ab 3 l ?_;refine Px ?_;refine Ao 4 (λK o=>?_);go_simp;refine(O2 m 2 r (by omega) (by omega) (by omega) (by omega)).mono ?_;rintro e b3 ⟨rfl,rfl⟩;refine o _ _ l (λ_=>?_);clear o K;refine Px ?_;refine Ab (v:= .int .i64 (16*(c:Int))) 5 l ?_ (hy:=by intro w' t;go_simp);refine Ab 6 l ?_;refine Px ?_;refine Bc (by kernel_rfl) ?_ _;clear c9;have fr:Int.tdiv (16*(c:Int)) 16=(c:Int):=by rw[Int.tdiv_eq_ediv_of_nonneg (by omega)];omega
 have fu:Int.tmod (16*(c:Int)) 16=0:=by rw[T2 (by omega)];omega
 have hJ:decide ((c:Int)<1)=false:=A6 (by omega);have hK:decide ((200:Int)<(c:Int))=false:=A6 (by omega);obtain⟨f0,f1,f2,f3,f4⟩:=l.five;have fk:b3.cell? ⟨w,4,none⟩=some (.bool false):=by rw[<-z.out.dead];exact f4
 have ds:=A0 l;clear f4 l;go_wp2_with fail;refine(bx 0 0 b3 rfl Z (by have:=b2.out;omega)).mono ?_;rintro e g8 ⟨rfl,D⟩;have aX:=A0 (Z.trans (D.mono Z.size));have bs:=ds.below D;obtain⟨cX,bN⟩:=Hx2 (cy.below D) (A8 bP D.size);have e7:g8.cell? ⟨w,4,none⟩=some (.bool false):=(D.cell (p:=⟨w,4,none⟩) (by have:=bP.out;show w.heap.size<_;omega)).trans fk;obtain⟨f0,f1,f2,f3,_⟩:=bs.five;have cV:=A0 bs;clear D bs ds cy Z bP fk;go_wp2_with fail;refine(bx 1 1 g8 rfl aX (by have:=b2.out;omega)).mono ?_;rintro e g9 ⟨rfl,a2⟩;obtain⟨bL,d0,d1,bO⟩:=Hx4 (aX.trans (a2.mono aX.size)) (cV.below a2) (cX.below a2) (A8 bN a2.size);have e2:Hid (g9.cell? ⟨w,4,none⟩=some (.bool false)):=(a2.cell (p:=⟨w,4,none⟩) (by have:=bN.out;show w.heap.size<_;omega)).trans e7;have bb:=ft (K 0) (K 1) g9;have ek:Hi (K 0) (K 1)=some ((g,a,((Ap vs).size:Int)),a):=by rw[bw.out,bw.out];exact lg z.img z.oth
 rw[ek] at bb;clear ek;obtain⟨O,aK⟩:∃O:Nat,(Ap vs).size=O:=⟨_,rfl⟩;rw[aK] at bb;have h9:=A0 aK;clear aK;clear a2 cV cX aX bN e7 f0 f1 f2 f3;have cU:=A0 bb;clear bb;go_wp2_with fail;refine cU.mono ?_;rintro e u ⟨rfl,ak⟩;unfold Gd;have bM:=A0 (bL.trans (ak.mono bL.size));have cz:=d0.below ak;obtain⟨d3,e3⟩:=Hx2 (d1.below ak) (A8 bO ak.size);have h0:Hid (u.cell? ⟨w,4,none⟩=some (.bool false)):=(ak.cell (p:=⟨w,4,none⟩) (by have:=bO.out;show w.heap.size<_;omega)).trans e2;have d2:=A0 cz;clear ak d0 d1 bL bO e2 cU cz;go_wp2_with fail;have cv:=Aa.new u [.int .i64 g, .int .i64 a, .int .i64 O] 122;have a5:Below u u (u.alloc (.cells #[.int .i64 g, .int .i64 a, .int .i64 O] 122)):=(A2 _ _).alloc (A1 _) _;have cu:Aa u w.heap.size [.slice I d.kept.length M, .slice H d.cache.length L, .int .i64 d.fuse, .slice J d.keep.length N, .bool false] 27:=by have:=d2.out;rw[z.out.dead] at this;exact this
 obtain⟨cC,cF,bt,an,e4⟩:=Hx5 (cu.below a5) (d3.below a5) cv (bM.trans (a5.mono bM.size)) (show w.heap.size+2<=u.heap.size/\u<(u.alloc (.cells #[.int .i64 g, .int .i64 a, .int .i64 O] 122)).heap.size from⟨e3,by simp⟩);clear cv a5 cu d2 d3 bM e3 h0;generalize u.alloc (.cells #[.int .i64 g, .int .i64 a, .int .i64 O] 122)=b4 at*;obtain⟨hc,hN⟩:0<=a/\a<=1:=by
  have:=M1 (show decide (1<=g/\g<1099511627776/\0<=a/\a<=1/\0<=((Ap vs).size:Int)/\((Ap vs).size:Int)<=1000000)=true from z.img.ok);exact⟨this.2.2.1,this.2.2.2.1⟩
 obtain⟨A,e8⟩:∃A:Nat,(A:Int)=2+(m:Int)*a:=⟨(2+(m:Int)*a).toNat,by have:0<=(m:Int)*a:=T1 (by omega) hc;omega⟩;have hL:A+m<=2+2*m:=by rcases(show a=0\/a=1 by omega) with rfl|rfl<;>omega
 have hg:(prog.info? 9).map (λi=>(i.zero,i.size,i.bytes))=some (some (.string ⟨#[]⟩),1,16):=by kernel_rfl
 obtain⟨i0,eS,ho,hq,hr⟩:=BW hg;go_loopw [15,85] (λhF cb wr=>∃k:Nat,cb= .int .i64 (k:Int)/\k<=m/\wr.ownsRow b4.heap.size 9 1 hF k (((List.range k).map λj=>K (A+j)).map Value.string)/\Below b4 b4 wr) (λ_ cb _=>m-(intOf cb).toNat)
 case atStart=>exact⟨0,rfl,A7 _,C2 _ _ _ _,A2 _ _⟩
 case round=>
  generalize wr=aP at*;obtain⟨k,rfl,hk,c3,eg⟩:=hrel;obtain⟨a0,c0,rfl,_⟩:=Aw c3;obtain⟨aU,a3⟩:=Hx2 c3 eg;clear c3 eg;by_cases hQ:k<m
  ·have ha:(k:Int)<(m:Int):=by omega
   go_wp2_with fail;refine BM (S:=λr=>Aa r w.heap.size [.slice I d.kept.length M, .slice H d.cache.length L, .int .i64 d.fuse, .slice J d.keep.length N, .bool false] 27/\Aa r u.heap.size [.int .i64 g, .int .i64 a, .int .i64 O] 122) (by kernel_rfl) 13 rfl ⟨(cC.below a3).drew,(bt.below a3).drew⟩ (λl=>?_);have C:=(A2 aP.heap.size aP).drew;obtain⟨X,dc⟩:=Hx2 (a3.trans (C.mono a3.size)) (Ag aU C);clear C aU a3;generalize aP.drew=r at*;have ca:IntKind.i64.wrap (2+(m:Int)*a+(k:Int))=((A+k:Nat):Int):=by
    rw[<-e8];exact(C0 _ (by omega)).trans (by omega)
   refine Ab (v:= .agg #[.slice I d.kept.length M, .slice H d.cache.length L, .int .i64 d.fuse, .slice J d.keep.length N, .bool false]) 0 l ?_ (hy:=by intro w' t;obtain⟨f0,f1,f2,f3,f4⟩:=t.1.five;go_simp);refine Ab 1 l ?_;refine Ab 2 l ?_;refine Ab 3 l ?_ (hy:=by intro w' t;have q:=t.2.cell 1 rfl;go_simp;with_reducible rfl);refine Ab 5 l ?_;refine Px ?_;refine Ao 4 (λa1 o=>?_);go_simp;refine(O2 m a r (by omega) (by omega) (by omega) (by omega)).mono ?_;rintro e b3 ⟨rfl,rfl⟩;refine o _ _ l (λ_=>?_);clear o a1;refine Px ?_;refine Ab (v:= .int .i64 ((A+k:Nat):Int)) 6 l ?_ (hy:=by intro w' t;go_simp);refine Px ?_;refine Ao 7 (λa1 o=>?_);go_simp;refine(bx (A+k) (2+(m:Int)*a+(k:Int)) b3 (by omega) (an.trans (X.mono an.size)) (by have:=b2.out;omega)).mono ?_;rintro e bR ⟨rfl,D⟩;have ab:Aa bR w.heap.size [.slice I d.kept.length M, .slice H d.cache.length L, .int .i64 d.fuse, .slice J d.keep.length N, .bool false] 27/\Aa bR u.heap.size [.int .i64 g, .int .i64 a, .int .i64 O] 122:=⟨l.1.below D,l.2.below D⟩;obtain⟨cT,da⟩:=Hx2 (X.trans (D.mono X.size)) (Ag dc D);clear D X dc l;refine o _ _ ab (λ_=>?_);clear o a1;refine Px ?_;refine Ab 8 ab ?_;refine Ab 9 ab ?_;refine Ab 10 ab ?_;refine Ab 11 ab ?_;refine Ab 12 ab ?_;refine Px ?_;refine Bc (by kernel_rfl) ?_ _;have gk:Hid (((List.range (k+1)).map λj=>K (A+j))=((List.range k).map λj=>K (A+j))++[K (A+k)]):=by unfold Hid;rw[HL,D1];rfl
   have hi:=cT.size;generalize K (A+k)=hv at*;clear ab ca;go_wp2_with (first
    |(at_builtin;refine Ho _ rfl _ _ 23 rfl b4.heap.size 9 i0 (.string ⟨#[]⟩) 1 16 underlying23 eS ho hq hr rfl (by decide) (.slice a0 k c0) _ _ rfl (da.alloc _) ⟨bR,0,none⟩ 1 1 [.string hv] rfl rfl (QX _ _ _) (by simp[Value.oneCell']) (by simp[maxLen];omega) (by omega) (by simp;omega) ?_
      intro hZ cg f9 es _;have a2:=(cT.alloc hi _).grown es (by simp;omega) (λb a6=>Ah da b a6);obtain⟨gm,gb⟩:=Hx2 f9 a2;clear f9 es a2)
    |fail)
   exact⟨⟨k+1,by go_num,by omega,by rw[gk.out,D1];exact gm,gb⟩,by simp[intOf];omega⟩
  ·obtain rfl:k=m:=by omega
   have ha:decide ((k:Int)<(k:Int))=false:=A6 (by omega);have fb:Ef aP (.slice a0 k c0) ((List.range k).map λj=>K (A+j)):=(Cr (f:=Value.string) aU).1;have c6:=Vb (.slice a0 k c0) ((List.range k).map λj=>K (A+j)) aP fb (by simp;omega);have fa:DE ((List.range k).map λj=>K (A+j))=some (Ap vs):=by
    rw[<-lh z.out.img (by omega) (by omega),BY,<-e8,BY];congr 1;exact HV λj _=>bw _
   rw[fa] at c6;clear fa fb;have dn:=A0 c6;clear c6;go_wp2_with fail;refine dn.mono ?_;rintro e cg ⟨rfl,Y⟩;unfold Oa;have b7:=a3.trans (Y.mono a3.size);obtain⟨al,h5⟩:=Hx2 b7 (show w.heap.size+1<cg.heap.size from by have:=b7.size;have:=e4.out;omega);have bq:=bt.below b7;have cK:=A0 bq;have hs:=bq.cell 2 rfl;have aK:(Ap vs).size=O:=h9.out;have f5:=mV vs cg z.vols (by
    have:=M1 (show decide (1<=g/\g<1099511627776/\0<=a/\a<=1/\0<=((Ap vs).size:Int)/\((Ap vs).size:Int)<=1000000)=true from z.img.ok);omega)
   have d4:=A0 f5;clear b7 Y bq f5 dn aU a3 bt;go_wp2_with fail;refine d4.mono ?_;rintro e ga ⟨cc,rfl,bp,b8⟩;have bl:=z.pool;have fi:(Bt vs c).length=c:=by unfold Bt;rw[Rb,C6]
   have Cs:=XL cc vs c ga (Kn bp) z.vols bl.many he (by omega) (λn bc=>by
    have:=bl.slots.of n (H3.2 bc);rw[<-fi];exact this) bl.may
   obtain⟨d5,e0,bu,cL,h6⟩:=Hx5 Cs bp (al.trans (b8.mono al.size)) (cK.below b8) b8.size;obtain⟨a7,a9,rfl⟩:=Fy (Kn bp);clear Cs bp bl fi b8 d4 al cK hs aK;go_wp2_with fail;refine d5.mono ?_;rintro e ad ⟨hG,rfl,c7,aC⟩;obtain⟨a8,ac,aa,rfl⟩:∃a n c,hG= .slice a n c:=by obtain⟨x,y,hI,_⟩:=E8 (c7 ad (AW _ _));exact⟨_,_,_,hI⟩
   obtain⟨dT,aT,cM,e1,h7⟩:=Hx5 c7 (bu.trans (aC.mono bu.size)) (cL.below aC) (Jn e0 aC) aC.size;clear c7 aC d5 bu cL e0;go_wp2_with fail;refine BM (S:=λe6=>Aa e6 w.heap.size [.slice I d.kept.length M, .slice H d.cache.length L, .int .i64 d.fuse, .slice J d.keep.length N, .bool d.dead] 27/\Aa e6 u.heap.size [.int .i64 g, .int .i64 a, .int .i64 O] 122) (by kernel_rfl) 12 rfl ⟨by rw[z.out.dead];exact(cC.below aT).drew,cM.drew⟩ (λl=>?_);have C:=(A2 ad.heap.size ad).drew;obtain⟨X,gT,gX,h8⟩:=Hx4 (aT.trans (C.mono aT.size)) (λG (aF:Ac ad.drew G (λk=>k<ga.heap.size))=>dT G (((Ai C).mono λ_ _ e=>e.elim).trans aF)) (Jn e1 C) (show ad<=ad.drew.heap.size from C.size);clear C dT e1 aT cM;generalize ad.drew=r at*;refine Ab (v:= .agg #[.slice I d.kept.length M, .slice H d.cache.length L, .int .i64 d.fuse, .slice J d.keep.length N, .bool d.dead]) 0 l ?_ (hy:=by intro w' t;obtain⟨f0,f1,f2,f3,f4⟩:=t.1.five;go_simp);refine Ab 2 l ?_;refine Ab 3 l ?_;refine Ab 4 l ?_ (hy:=by intro w' t;have q:=t.2.cell 0 rfl;go_simp;with_reducible rfl);refine Ab 5 l ?_;refine Ab 6 l ?_ (hy:=by intro w' t;have q:=t.2.cell 1 rfl;go_simp;with_reducible rfl);refine Ab 7 l ?_;refine Ab 8 l ?_;refine Px ?_;have f8:∀s,Below w w s->r.heap.size<=s.heap.size->Calls prog 61 #[.agg #[.slice I d.kept.length M, .slice H d.cache.length L, .int .i64 d.fuse, .slice J d.keep.length N, .bool d.dead]] s λe w'=>(∃v,e= .returned v/\∃aq av ap au ar ax,v= .agg #[.slice aq d.kept.length av, .slice ap d.cache.length au, .int .i64 d.fuse, .slice ar d.keep.length ax, .bool d.dead]/\Ez w' r.heap.size (.slice aq d.kept.length av) (.slice ap d.cache.length au) (.slice ar d.keep.length ax) d)/\Below s s w':=λs aL hl=>by
    refine(XJ _ _ _ d s (gf.below aL) z.ok z.kp).mono ?_;rintro e w' ⟨ht,hu,c9,fr,fu,ca,rfl,hf,hb⟩;exact⟨⟨_,rfl,ht,hu,c9,fr,fu,ca,rfl,mX hf (by omega)⟩,hb⟩
   obtain⟨dd,Z⟩:=Hx2 f8 (an.trans (X.mono an.size));clear f8;refine XK 1 9 10 (λv F=>∃aq av ap au ar ax,v= .agg #[.slice aq d.kept.length av, .slice ap d.cache.length au, .int .i64 d.fuse, .slice ar d.keep.length ax, .bool d.dead]/\Ez F r.heap.size (.slice aq d.kept.length av) (.slice ap d.cache.length au) (.slice ar d.keep.length ax) d)
    (λv F=>∃p,v= .pointer (some ⟨p,0,none⟩)/\r.heap.size<=p/\Aa F p [.slice none 0 0, .slice none 0 0, .int .i64 0, .slice none 0 0, .bool false, .int .i64 0, .int .i64 0, .int .i64 0, .slice none 0 0, .slice none 0 0] 31)
    (λv=>match v with| .agg cs=> .agg (cs++#[.int .i64 k, .int .i64 g, .int .i64 a, .slice a7 vs.length a9, .slice a8 ac aa])|_=>undef)
    (λv F G ⟨P,Q,T,U,V,W,h1,h2⟩ hb=>⟨P,Q,T,U,V,W,h1,h2.below hb⟩) (λv F G ⟨p,h1,h2,h3⟩ hb=>⟨p,h1,h2,h3.below hb⟩)
    (λG hb=>⟨l.1.below hb,l.2.below hb⟩)
    ?c1 ?c2 ?c12 ?c21 ?y1 ?y2 ?fin
   case c1=>
    intro a1 o;go_simp;refine(dd r Z (A1 _)).mono ?_;rintro e hH ⟨⟨v,rfl,c8⟩,a5⟩;exact o _ _ c8 a5
   case c2=>
    intro a1 o;go_simp;exact o _ _ ⟨_,rfl,A1 _,Aa.new r [.slice none 0 0, .slice none 0 0, .int .i64 0, .slice none 0 0, .bool false, .int .i64 0, .int .i64 0, .int .i64 0, .slice none 0 0, .slice none 0 0] 31⟩ ((A2 _ _).alloc (A1 _) _)
   case c12=>
    rintro v F ⟨P,Q,T,U,V,W,rfl,_⟩ b9 a1 o;go_simp;exact o _ _ ⟨_,rfl,b9.size,Aa.new F [.slice none 0 0, .slice none 0 0, .int .i64 0, .slice none 0 0, .bool false, .int .i64 0, .int .i64 0, .int .i64 0, .slice none 0 0, .slice none 0 0] 31⟩ ((A2 _ _).alloc (A1 _) _)
   case c21=>
    rintro v F ⟨p,rfl,aF,a6⟩ b9 a1 o;go_simp;refine(dd F (Z.trans (b9.mono Z.size)) b9.size).mono ?_;rintro e hH ⟨⟨v,rfl,c8⟩,a5⟩;exact o _ _ c8 a5
   case y1=>
    rintro v F ⟨P,Q,T,U,V,W,rfl,_⟩ w t;go_simp
   case y2=>
    rintro v cc F ⟨P,Q,T,U,V,W,rfl,_⟩ w t;go_simp
   case fin=>
    rintro v cc b5 ⟨P,Q,T,U,V,W,rfl,em⟩ ⟨p,rfl,aF,a6⟩ Y;have hh:=e4.out;have hM:u<r.heap.size:=B3 hh.2 X.size;have bV:Aa b5 w.heap.size [.slice I d.kept.length M, .slice H d.cache.length L, .int .i64 d.fuse, .slice J d.keep.length N, .bool d.dead] 27/\Aa b5 u.heap.size [.int .i64 g, .int .i64 a, .int .i64 O] 122:=⟨l.1.below Y,l.2.below Y⟩;have e5:=(cF.below X).below Y;have hp:=a6.put10 (.slice P d.kept.length Q) (.slice T d.cache.length U) (.int .i64 d.fuse) (.slice V d.keep.length W) (.bool d.dead) (.int .i64 k) (.int .i64 g) (.int .i64 a) (.slice a7 vs.length a9) (.slice a8 ac aa);refine Px ?_;refine Ao 11 (λa1 o=>?_);obtain⟨f0,f1,f2,f3,f4,af,ag,ah,ai,aj⟩:=a6.ten;obtain⟨ci,cj,ck,cl,cm,co,cp,cq,cr,ct⟩:=a6.fz10;go_simp;have e9:=And.intro (hp.2.blk bV.1 (by omega)) (hp.2.blk bV.2 (by omega));have ao:=hp.2.blk e5 (by omega);refine o _ _ e9 (λ_=>?_);clear o a1 f0 f1 f2 f3 f4 af ag ah ai aj ci cj ck cl cm co cp cq cr ct e9;obtain⟨c4,c5⟩:=hp;obtain⟨bT,eb⟩:∃bT,((((((((((b5.setCell ⟨p,0,none⟩ (.slice P d.kept.length Q)).setCell ⟨p,1,none⟩ (.slice T d.cache.length U)).setCell ⟨p,2,none⟩ (.int .i64 d.fuse)).setCell ⟨p,3,none⟩ (.slice V d.keep.length W)).setCell ⟨p,4,none⟩ (.bool d.dead)).setCell ⟨p,5,none⟩ (.int .i64 k)).setCell ⟨p,6,none⟩ (.int .i64 g)).setCell ⟨p,7,none⟩ (.int .i64 a)).setCell ⟨p,8,none⟩ (.slice a7 vs.length a9)).setCell ⟨p,9,none⟩ (.slice a8 ac aa))=bT:=⟨_,rfl⟩;rw[eb] at c4 c5 ao⊢;clear eb;refine Px ?_;refine Bc (by kernel_rfl) ?_ _;have bc:=ao.put10 (.slice P d.kept.length Q) (.slice T d.cache.length U) (.int .i64 d.fuse) (.slice V d.keep.length W) (.bool d.dead) (.int .i64 k) (.int .i64 g) (.int .i64 a) (.slice a7 vs.length a9) (.slice a8 ac aa);obtain⟨f0,f1,f2,f3,f4,af,ag,ah,ai,aj⟩:=c4.ten;obtain⟨hw,t1,t2,hx,hz,hA,hB,hC,hD,hE⟩:=ao.ten;obtain⟨ci,cj,ck,cl,cm,co,cp,cq,cr,ct⟩:=ao.fz10;obtain⟨dk,gs,al,gg,gd,h4,gl⟩:=Hx7 bc c5 Y em a6 aF (cF.below X);clear bc c4 c5 Y em a6 e5 ao l bV aF;go_wp2_with fail;obtain⟨h1,h2⟩:=dk.out;clear dk f0 f1 f2 f3 f4 af ag ah ai aj hw t1 t2 hx hz hA hB hC hD hE ci cj ck cl cm co cp cq cr ct;obtain⟨b6,ec⟩:∃b6,((((((((((bT.setCell ⟨w+1,0,none⟩ (.slice P d.kept.length Q)).setCell ⟨w+1,1,none⟩ (.slice T d.cache.length U)).setCell ⟨w+1,2,none⟩ (.int .i64 d.fuse)).setCell ⟨w+1,3,none⟩ (.slice V d.keep.length W)).setCell ⟨w+1,4,none⟩ (.bool d.dead)).setCell ⟨w+1,5,none⟩ (.int .i64 k)).setCell ⟨w+1,6,none⟩ (.int .i64 g)).setCell ⟨w+1,7,none⟩ (.int .i64 a)).setCell ⟨w+1,8,none⟩ (.slice a7 vs.length a9)).setCell ⟨w+1,9,none⟩ (.slice a8 ac aa))=b6:=⟨_,rfl⟩;rw[ec] at h1 h2⊢;clear ec;obtain⟨f0,f1,f2,f3,f4,af,ag,ah,ai,aj⟩:=h1.ten;refine A5 (v:= .tuple #[.agg #[.slice P d.kept.length Q, .slice T d.cache.length U, .int .i64 d.fuse, .slice V d.keep.length W, .bool d.dead, .int .i64 k, .int .i64 g, .int .i64 a, .slice a7 vs.length a9, .slice a8 ac aa], .int .i64 0]) (by simp[results,results22,go_sem,f0,f1,f2,f3,f4,af,ag,ah,ai,aj]) rfl ?_;clear f0 f1 f2 f3 f4 af ag ah ai aj h1;have hO:=X.out;have hU:=h4.out;have Y:=al.out;have et:Ac b5 b6 (λi=>i=p\/i=w.heap.size+1):=(gs.mono λi _ e=>Or.inl e).trans (h2.mono λi _ e=>Or.inr e);have eA:Ac r b6 (λi=>i=w.heap.size+1):=(((Ai Y).mono (R':=λi=>i=w.heap.size+1) λ_ _ e=>e.elim)).trans' et (λi eS e=>by omega);have bX:Below w w r:=Z.out;have hY:=an.size;refine⟨.slice P d.kept.length Q, .slice T d.cache.length U, .slice V d.keep.length W, .slice a7 vs.length a9, .slice a8 ac aa,rfl,λG fj=>?_,bX.trans (eA.below (B:=w.heap.size) bX.size (λi e=>by omega))⟩;have ey:Ac r G (λi=>i=w.heap.size+1\/R i):=(eA.mono λi _ e=>Or.inl e).trans (fj.mono λi _ e=>Or.inr e);have a4:=gx.out;have hV:=h6.out;have hW:=h7.out;have hX:=h8.out;have hj:=h5.out;refine⟨?_,?_,?_⟩
    ·exact mY gg gd ((et.mono (R':=λi=>i=p\/i=w.heap.size+1\/R i) λi _ e=>by omega).trans (fj.mono λi _ e=>Or.inr (Or.inr e))) (λi e=>by
      rcases e with rfl|rfl|e
      ·exact Or.inr rfl
      ·left;omega
      ·left;have:=(a4 i e).1;omega)
    ·exact Kn (OW gX ey λb hb=>by
      rcases hb with rfl|hb
      ·exact⟨hj,Cw gl (by decide)⟩
      ·exact⟨by have:=(a4 b hb).1;omega,λh=>(a4 b hb).2.1 (Ic h (a4 b hb).1 bX)⟩)
    ·exact gT G (ey.mono λi _ e=>by
      rcases e with rfl|e
      ·omega
      ·have:=(a4 i e).1;omega)
end Go.Proofs.YtmajkjjjfodhlaaGreatDoor
