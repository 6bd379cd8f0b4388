/- Part Mbc. No condition of its own. -/
import Derived.Test.YtmajkjjjfodhlaaGreatDoorMbb
namespace Go.Proofs.YtmajkjjjfodhlaaGreatDoor
open Go.RowKit Tryz Go.Shelf
set_option linter.all false
set_option maxRecDepth 100000
set_option maxHeartbeats 8000000
theorem my(a6 a5 a7 cq co:Value)(p:Pl)(v:Vl)(s:NS)(tv:Int)(R:Nat->Prop)(w:World)(bM:Cx w R)(hp:∀g,Ac w g R->AH g a6 a5 a7 cq co p)(hs:Bp w (s) v.2.2)(h:Ei p v tv):
 Calls prog 102 #[AO a6 a5 a7 cq co p,FU v.1 v.2.1 s, tv] w λe w'=>∃cr cp,e= .returned (.tuple #[AO a6 a5 a7 cr cp (DS p v tv),De 0 ⟨#[]⟩ 0])/\(∀g,Ac w' g R->AH g a6 a5 a7 cr cp (DS p v tv))/\Below w w w':=by
 have aC:=hp w (AW _ _);obtain⟨a8,a9,aa,ct,cu,m1,m2,a3,ck,m5,d1,d2,Y,d4,d5,rfl,rfl,rfl,rfl,rfl⟩:=aC.shape;obtain⟨bl,E⟩:=Hx2 hp bM;have r:=h.ok.vols.ok v h.mem;have aF:=λk hk=>h.slots k hk;have L:=h.ok.few;have bb:Hid (∀k,k<=(Ax v.2.2).length->FN (Bf p.tabs ((Ax v.2.2).take k))):=λk hk=>by
  obtain⟨_,aL,eS,_⟩:=aF k hk;exact⟨λl hl=>by have:=GL ((Fp.1 aL).1 l hl);omega,by rw[eS];exact L⟩
 obtain⟨bs,cK,bq⟩:=Hx3 aF aC hs;have bp:Hid (∀n∈Ax v.2.2,BG n=true):=λn ay=>by
  obtain⟨q,dk,rfl⟩:=E1.1 ay;exact(r.ok q dk).2.2
 have V:=A0 (λcm m (P:CU m cm p.vols) (ay:Bp m (s) v.2.2)=>RG cm p.vols (tv,v.2.1,v.2.2) s m P h.ok.vols ay ⟨h.t1,h.t2,r.sz0,r.sz1,r.len,r.ok⟩ (by rw[h.vs];intro y hy;rw[B6.1 hy];exact Int.le_of_lt h.lt) (by rw[h.vs];simp[Gg,h.lt]));rw[show Gg p.vols (tv,v.2.1,v.2.2)=p.vols++[(tv,v.2.1,v.2.2)] by rw[h.vs];simp[Gg,h.lt]] at V;have U:=A0 (λm P=>KE hs 0 v.2.1 (JF r (E4 _) (E4 _)) m P);have c7:=r.len;have a2:(Ax v.2.2).length=(v.2.2).length:=by unfold Ax;rw[B4]
 clear bM hp aC hs aF r h L;obtain⟨d,mt,gen,area,vols,tabs⟩:=p;obtain⟨id,size,f⟩:=v;dsimp only at c7 a2 V U bb bs bp bq⊢;obtain⟨⟨ey,e4,e1⟩,⟨eA,e5,e2⟩,⟨aL,e6,e3⟩⟩:=s;dsimp only[sv] at V U⊢;obtain⟨b0,b1,b2,bx,o,e0⟩:=OY w [(.slice a8 m1 d1),(.slice a9 m2 d2), d.fuse,(.slice aa a3 Y), .bool d.dead, mt, gen, area,(.slice ct ck d4),(.slice cu m5 d5)] [id, size, .slice ey e4 e1, .slice eA e5 e2, .slice aL e6 e3] Bz [.int .i64 0, .string ⟨#[]⟩, .int .i64 0] 31 78 31 44;obtain⟨B0,aP,aT,aU,bw⟩:=Hx5 b0 b1 b2 bx o;have ci:=U _ o;clear b0 b1 b2 bx o U;go_enter func102,ntmps102;go_wp2_with fail;refine ci.mono ?_;rintro e H ⟨fa,fb,rfl,c6,A⟩;have cg:=(CJ DL c6).1;obtain⟨cM,J,ab,ac,ad,af⟩:=Hx6 cg (bw.trans (A.mono bw.size)) (B0.below A) (aP.below A) (aT.below A) (aU.below A);have cU:Hid (∀k q,f[k]?=some q->∃g5:k<(Ax f).length,(Ax f)[k]=q.2):=λk q hk=>by
  obtain⟨h1,h2⟩:=N2.1 hk;refine⟨by rw[a2];exact h1,?_⟩;rw[<-h2];simp[Ax]
 have cc:f.length=(Ax f).length:=a2.symm;have cL:=A0 cc;have dT:w.heap.size+4<=H.heap.size:=by have:=A.size;omega
 have g6:f.length<=100000:=by omega
 have bu:Hid (∀g,Ac H g (λb=>(w<=b/\b<w.heap.size+4)\/R b)->Be g (.slice cu m5 d5) (Bf tabs ((Ax f).take 0))):=λg M=>(bl g (((Ai J).mono (R':=R) λ_ _ h=>h.elim).trans' M λi dc e=>by
  rcases e with e|e
  ·omega
  ·exact e)).tabs
 have cC:Hid (∀ap,Below H H ap->∀b,(w.heap.size<=b/\b<w.heap.size+4)\/R b->DT ap b):=λap o b hb=>by
  rcases hb with hb|hb;rotate_left
  ·exact IG (E b hb).2.2 (E b hb).1 (J.trans (o.mono J.size))
  rcases(show b=w.heap.size\/b=w.heap.size+1\/b=w.heap.size+1+1\/b=w.heap.size+1+1+1 by omega) with rfl|rfl|rfl|rfl
  ·exact Fs (ab.below o)
  ·exact XM (ac.below o)
  ·exact Fs (ad.below o)
  ·exact Lh (af.below o)
 clear c6 A ci B0 aP aT aU cg e0 cc a2 c7;generalize bL:f.length=K at*;have cz:=A0 bL;clear bL;go_wp2_with fail;go_loopw [8,23] (λf6 aM wr=>∃(k:Nat) (Q:Value),aM= .int .i64 (k:Int)/\Q=f6/\k<=K/\Hid (∀g,Ac wr g (λb=>(w<=b/\b<w.heap.size+4)\/R b)->Be g Q (Bf tabs ((Ax f).take k)))/\Below H H wr) (λ_ aM _=>K-(intOf aM).toNat)
 case atStart=>exact⟨0,_,rfl,rfl,A7 _,bu,A2 _ _⟩
 case round=>
  clear bu;generalize wr=j at*;obtain⟨k,Q,rfl,rfl,hk,bt,hb⟩:=hrel;have cy:=A0 hb;by_cases dd:k<K
  ·have c1:k<f.length:=by rw[cz.out];exact dd
   obtain⟨b,off,ds,g7,cV,cX⟩:=Pm (Aj cM hb) c1;subst ds;obtain⟨O,c0⟩:=cU k f[k] (Bl c1);have F:=bp _ (BA O);obtain⟨_,_,_,G⟩:=bs k (Hq O);have G:=G O;have L:=bb k (Hq O);have an:Hid (Bf tabs ((Ax f).take (k+1))=ER (Bf tabs ((Ax f).take k)) (rC (Ax f)[k]) (rA (Ax f)[k]) (rS (Ax f)[k]) (rP (Ax f)[k]) 1):=by
    unfold Hid;rw[B1 O,Wp];rfl
   rw[c0] at G F an;generalize f[k]=e7 at*;obtain⟨pk,n⟩:=e7;dsimp only at cV cX G F an;have a1:=λm=>LD n m (M5 F);rw[Ii F,F] at a1;have c8:n/2/257/16=rC n:=rfl;have c9:n/2/257%16=rA n:=rfl;have ca:n/2%257=rS n:=rfl;have cb:(n%2==1)=rP n:=rfl;rw[c8,c9,ca,cb] at a1;have c5:Dc (Bf tabs ((Ax f).take k)) (rC n) (rA n) (rS n) (rP n) 1=true:=G;clear c8 c9 ca cb F G c0;generalize rC n=c at*;generalize rA n=a at*;generalize rS n=cl at*;generalize rP n=pb at*;have T:=A0 (λm (P:Below j j m)=>iz Q (Bf tabs ((Ax f).take k)) c a cl pb m (DH (bt j (AW _ _)) P) L);unfold Jj at T;rw[c5] at T;have bK:(k:Int)<(K:Int):=by omega
   have g1:(0:Int)<=(k:Int):=by omega
   have dn:=hb.size;clear hb L c5;go_wp2_with fail;have au:=(A2 j.heap.size j).alloc (A1 _) (.cells #[pk, n] 113);refine(a1 _).mono ?_;rintro e gs ⟨rfl,bP⟩;have av:=au.trans (bP.mono au.size);have a0:=av.alloc av.size (.cells #[c, a, cl, .bool pb] 162);have b8:=A0 a0;clear bP a1 au av;go_wp2_with fail;refine(T _ a0).mono ?_;rintro e cs ⟨f9,c4,rfl,ch,c2,bR⟩;have b9:=A0 (cy.trans ((b8.trans (bR.mono b8.size)).mono dn));have cS:=A0 (λg (M:Ac cs g (λb=>(w<=b/\b<w.heap.size+4)\/R b))=>(MJ (n₀:=w.heap.size+4) ⟨ch,λb hb=>by have:=c2 b hb;have:=a0.size;omega⟩ M λb hb=>⟨by rcases hb with hb|hb;exact hb.2;have:=(E b hb).1;omega,cC cs b9 b hb⟩).tab);clear a0 ch c2 bR T;go_wp2_with fail;exact⟨⟨k+1,_,rfl,rfl,by omega,by rw[an.out];exact cS,b9⟩,by simp[intOf];omega⟩
  ·obtain rfl:k=K:=by omega
   have hd:decide ((k:Int)<(k:Int))=false:=A6 (by omega);have aq:∀g,Ac j g (λb=>(w<=b/\b<w.heap.size+4)\/R b)->Be g Q (Bf tabs (Ax f)):=by have:=bt.out;rw[E2 (by rw[<-cL.out];exact A1 _)] at this;exact this
   have cP:=A0 aq;have bN:=aq j (AW _ _);obtain⟨u,z,rfl,_⟩:=E8 bN;obtain⟨ag,ah,cv,cw⟩:=Hx4 (ab.below hb) (ac.below hb) (ad.below hb) (af.below hb);have ar:=J.trans (hb.mono J.size);have g8:w.heap.size+4<=j.heap.size:=A8 dT hb.size;obtain⟨f0,f1,f2,f3,f4,fi,fj,fk,fr,fu⟩:=ag.ten;obtain⟨bK,g1,g2,d0,d3⟩:=ah.five;have f8:=ag.free 9;have f7:=ah.free 0;have bT:=(Ad j (w+1) 0 (.int .i64 tv));have aX:=ah.set 0 (.int .i64 tv);have aV:=(ag.other (c:=w.heap.size+1) (by omega) 0 (.int .i64 tv)).set 9 (.slice u (Bf tabs (Ax f)).length z);have N:=(bT.mono (R':=λb=>b=w.heap.size\/b=w.heap.size+1) λ_ _ e=>Or.inr e).trans ((Ad (j.setCell ⟨w+1,0,none⟩ (.int .i64 tv)) w.heap.size 9 (.slice u (Bf tabs (Ax f)).length z)).mono λ_ _ e=>Or.inl e);have Z:=ar.trans (N.below (B:=w.heap.size) ar.size (λb hb=>by omega));have b3:=aX.other (c:=w.heap.size) (by omega) 9 (.slice u (Bf tabs (Ax f)).length z);obtain⟨b4,b5,b6,b7,ao,bc⟩:=Hx6 aV b3 (N.blk cv (by omega)) (N.blk cw (by omega)) Z (N.mono (R':=(λb=>(w<=b/\b<w.heap.size+4)\/R b)) λb _ hb=>Or.inl (by omega));have cj:=V (.slice ct ck d4) _ (EJ cK.vols Z) (JC bq Z);clear hb bT aX aV Z b3 bN aq ar ab ac ad af N;go_wp2_with fail;refine cj.mono ?_;rintro e I ⟨gm,rfl,aK,C⟩;obtain⟨t,x,rfl⟩:=Mw aK;obtain⟨ai,cx,S,aj,W,al,cT⟩:=Hx7 (b4.below C) (b5.below C) (b6.below C) (b7.below C) (ao.trans (C.mono ao.size)) (bc.trans ((Ai C).mono λ_ _ h=>h.elim)) aK;obtain⟨bK,g1,g2,d0,d3,fv,fz,g0,g3,g4⟩:=ai.ten;obtain⟨f7,gx,gT,gX,h0,h3,h4,h5,h6,h7⟩:=S.ten;obtain⟨h9,ha,hc,he,hf,hg,hh,hi,hj,f8⟩:=S.fz10;obtain⟨gb,gd,gf,gg,gk,gl⟩:=aj.three;have h8:=ai.free 8;generalize ga:(vols++[(tv,size,f)]).length=D at*;generalize g9:(Bf tabs (Ax f)).length=a4 at*;have bV:=Ad I w.heap.size 8 (.slice t D x);have c3:∀b,w.heap.size<=b/\b<w.heap.size+4->¬BP I b:=λb hb=>by
    rcases(show b=w.heap.size\/b=w.heap.size+1\/b=w.heap.size+1+1\/b=w.heap.size+1+1+1 by omega) with rfl|rfl|rfl|rfl
    ·exact Cw ai (by decide)
    ·exact Cw cx (by decide)
    ·exact Cw S (by decide)
    ·exact Cw aj (by decide)
   obtain⟨cF,ak⟩:=Hx2 c3 bV;clear aK C cj bV c3 b4 b5 b6 b7 ao bc;go_wp2_with fail;obtain⟨X,bO⟩:∃X:World,X=((((((((((((((I.setCell ⟨w,8,none⟩ (.slice t D x)).setCell ⟨w+1+1,0,none⟩ (.slice a8 m1 d1)).setCell ⟨w+1+1,1,none⟩ (.slice a9 m2 d2)).setCell ⟨w+1+1,2,none⟩ (.int .i64 d.fuse)).setCell ⟨w+1+1,3,none⟩ (.slice aa a3 Y)).setCell ⟨w+1+1,4,none⟩ (.bool d.dead)).setCell ⟨w+1+1,5,none⟩ (.int .i64 mt)).setCell ⟨w+1+1,6,none⟩ (.int .i64 gen)).setCell ⟨w+1+1,7,none⟩ (.int .i64 area)).setCell ⟨w+1+1,8,none⟩ (.slice t D x)).setCell ⟨w+1+1,9,none⟩ (.slice u a4 z)).setCell ⟨w+1+1+1,0,none⟩ (.int .i64 0)).setCell ⟨w+1+1+1,1,none⟩ (.string ⟨#[]⟩)).setCell ⟨w+1+1+1,2,none⟩ (.int .i64 0)):=⟨_,rfl⟩;obtain⟨⟨e8,e9,ea,eb,ec,eg,ek,em,es,et,f5,t1,t2⟩,da⟩:=AL (I.setCell ⟨w,8,none⟩ (.slice t D x)) (w+1+1) (w+1+1+1) _ _ _ _ _ _ _ _ _ _ _ _ _ _ _ (ak.blk S (by omega)) (ak.blk aj (by omega)) (by omega) (.slice a8 m1 d1) (.slice a9 m2 d2) (.int .i64 d.fuse) (.slice aa a3 Y) (.bool d.dead) (.int .i64 mt) (.int .i64 gen) (.int .i64 area) (.slice t D x) (.slice u a4 z) (.int .i64 0) (.string ⟨#[]⟩) (.int .i64 0) X bO.symm;have bX:Ac I X (λb=>w<=b/\b<w.heap.size+4):=(ak.mono λ_ _ e=>by omega).trans (da.mono λ_ _ e=>by omega);rw[<-bO];refine A5 (v:= .tuple #[.agg #[.slice a8 m1 d1, .slice a9 m2 d2, d.fuse, .slice aa a3 Y, .bool d.dead, mt, gen, area, .slice t D x, .slice u a4 z],De 0 ⟨#[]⟩ 0]) (by simp[results,results102,go_sem,e8,e9,ea,eb,ec,eg,ek,em,es,et,f5,t1,t2]) rfl ?_;have d6:=W.trans (bX.below (B:=w.heap.size) W.size (λb hb=>hb.1));refine⟨.slice t D x, .slice u a4 z,rfl,λg M=>?_,d6⟩;have ax:Ac I g (λb=>(w<=b/\b<w.heap.size+4)\/R b):=(bX.mono λ_ _ e=>Or.inl e).trans (M.mono λ_ _ e=>Or.inr e);refine⟨(bl g (((Ai W).mono (R':=R) λ_ _ h=>h.elim).trans' ax λi dc e=>by
    rcases e with e|e
    ·omega
    ·exact e)).disk,?_,?_⟩
   ·refine Kn (OW cT ax λb hb=>?_);rcases hb with hb|hb
    ·exact⟨by have:=al.size;rw[Hj,Hj];omega,cF b hb⟩
    ·exact⟨by have:=al.size;have:=(E b hb).1;rw[Hj,Hj];omega,λh=>(E b hb).2.1 (Ic h (E b hb).1 W)⟩
   ·exact cP g (al.trans ax)
section
attribute [local go_sem] Oper.semAt_some
theorem mz(b:Nat)(k v:Int)(w:World)(hb:Aa w b [k, v] 113):
 Calls prog 260 #[.slice none 0 0, .int .i64 0, .slice (some ⟨b,0,none⟩) 1 1] w λe w'=>∃g c,e= .returned (.slice (some ⟨g,0,none⟩) 1 c)/\1<=c/\g<w'.heap.size/\w'.cell? ⟨g,0,none⟩=some (.int .i64 k)/\w'.cell? ⟨g,1,none⟩=some (.int .i64 v)/\Below w w w':=by
 obtain⟨i0,f,l,m,n⟩:=BW Pu;have a:=A0 hb;clear hb;go_enter func260,ntmps260;go_wp2_with (first
  |(at_builtin;refine Ho _ rfl _ _ 108 rfl w.heap.size 113 i0 _ 2 16 underlying108 f l m n rfl (by decide) (.slice none 0 0) 0 [] rfl (C2 _ _ _ _) ⟨b,0,none⟩ 1 1 [k, v] rfl rfl (λj u h=>by rw[Bo,B2];exact a.cell j h) (DL.one (k,v)) (by simp[maxLen]) (by decide) (A1 _) ?_
    intro p q i d _;obtain⟨g,c,o,rfl,_,hc,hr⟩:=OQ i)
  |fail)
 go_ret;exact⟨g,c,rfl,hc,hr.lt,hr.cell 0 rfl,hr.cell 1 rfl,(A2 _ _).grown d (A1 _) λk hk=>by cases hk⟩
theorem mA{w0:World}{n:NS}{t:Tr}(h:Bp w0 n t)(x y:Int)(hk:∀p∈t,p.1=x)(w:World)(L:Below w0 w0 w):
 CallsIn Fence.wide 6 prog 196 #[.agg #[sv n.1,sv n.2.1,sv n.2.2], x, y] w λe w'=>∃s:NS,e= .returned (.agg #[sv s.1,sv s.2.1,sv s.2.2])/\NodeP w' (λb=>w<b) s [(x,y)]/\Below w w w':=by
 refine M0 func196 rfl trivial ?_ rfl;simp only[ntmps196,D2,BV,C4,Nat.reduceAdd,Nat.reduceSub,F1,F2,GV,F3,B7,D3];obtain⟨aL,b0,bM,S⟩:=FZ w [([sv n.1,sv n.2.1,sv n.2.2],76),([x],3),(FT,76)];dsimp only[DM] at b0;have ad:=FR (n:=6-1)|>.2 (MU h aL (L.trans (S.bl.mono L.size)));obtain⟨ak,al,an,_⟩:=S.bs.1.three;gi_wp2;refine⟨trivial,ad.mono ?_⟩;rintro e j ⟨rfl,aa⟩;have O:=S.call aa;obtain⟨a3,b3,_,H⟩:=FZ j [([.slice none 0 0],108),([.int .i64 0],3)];dsimp only[DM] at b3;have G:=H.bs.2.1;have a2:=(O.call H.bl).grs (Ad a3 (j+1) 0 (.int .i64 0)) λk hk=>by have:=O.size;omega
 have c5:=G.cell 0 rfl;have aU:=G.free 0;have a1:=G.set 0 (.int .i64 0);have a0:=H.bs.1.other (c:=j.heap.size+1) (by omega) 0 (.int .i64 0);generalize b4:a3.setCell ⟨j+1,0,none⟩ (.int .i64 0)=P at*;obtain⟨ak,al,an,_⟩:=a2.bs.1.three;clear ad aa H G;gi_wp2;refine⟨trivial,(Sw (6-1) (sv n.1) (sv n.2.1) (sv n.2.2) P).mono ?_⟩;rintro e a4 ⟨rfl,a8⟩;obtain⟨bc,a9,_,I,ao⟩:=Fx P [sv n.1,sv n.2.1,sv n.2.2] 76;obtain rfl:=a8.trans a9;have i:=a2.call I;have aq:=a0.below I;have W:=a1.below I;have ai:=Sv h (6-1) (by omega) _ a4 (L.trans (i.bl.mono L.size)) ao;have ag:=i.bl.size;have bL:=O.size;have bK:=W.lt;clear a8 a9 ak al an I c5 aU a1 a0 b4;gi_wp2;refine LB rfl (by omega) (gf:=277) (lb:=#[.pointer (some ⟨P,0,none⟩)]) rfl trivial (enters_of func277 (by kernel_rfl) rfl)
  ai (λ_ _=>trivial) (λ_ _ _ _ _ _ _ _=>trivial) (A2 _ _) (λ_=>rfl)
  (λ_ a=>(Boxed a j.heap.size 108 (.slice none 0 0)/\Boxed a (j+1) 3 (.int .i64 0))/\(Boxed a (w+1) 3 (.int .i64 x)/\Aa a (w+1+1) FT 76)/\Below w w a)
  (λ_ _ _=>False)
  (G6 (G6 (JD _ _ _ _) (JD _ _ _ _)) (G6 (G6 (JD _ _ _ _) (DY _ _ _ _)) (IW (A1 _) ag)))
  (λ_ _ _ _ _ hs _ _=>hs)
  ⟨⟨aq,W⟩,⟨i.bs.2.1,i.bs.2.2.1⟩,i.bl⟩
  ?round ?done ?stop
 case stop=>exact λD c pre a _ _ h _=>h.elim
 case round=>
  rintro l pre ⟨⟨pk,aj⟩,b7⟩ a K ⟨⟨h1,h2⟩,⟨h3,h4⟩,h5⟩ d;obtain rfl:pk=x:=hk (pk,aj) (by rw[b7];simp);have b1:(pk==pk)=true:=by simp
  obtain⟨b9,b2,_,f,aT⟩:=Fx a [pk, aj] 113;have Z:=A0 d;clear d;gi_wp2;refine Z _ _ ((KeepsOthers.below f).from _) trivial ⟨⟨Aa.below h1 f,Aa.below h2 f⟩,⟨Aa.below h3 f,h4.below f⟩,h5.trans (f.mono h5.size)⟩ ?_;clear Z b2 h1 h2 h3 h4 h5 f;rintro bN bR bb b6 _ _ U _;obtain⟨bO,bP,_⟩:=(b6 (λ_ a=>Aa a _ _ _) (DY _ _ _ _) aT).two;have c1:=H1 U.2.1.1;have ax:=A0 U;clear U;gi_wp2;exact⟨M4 _ _,trivial,ax⟩
 case done=>
  rintro D ys a aV bw ⟨⟨h1,h2⟩,⟨h3,h4⟩,R⟩ d;obtain⟨aM,bx,_,m,ap⟩:=Fx a [x, y] 113;have c1:=H1 h1;have c2:=H1 h2;have c3:=H1 h3;have ac:=FR (n:=6-1)|>.2 (mz a.heap.size x y aM ap);have aX:D<a.heap.size:=by
   rcases BZ D a.heap.size with Q|Q
   ·exact Q
   ·rw[B8 Q] at d;cases d
  have bp:=h4.lt;have bu:w.heap.size+1+1<D:=by have:=i.size;simp at this;omega
  obtain⟨aF,X,au⟩:=Hx3 (h4.below m) (R.trans (m.mono R.size)) ((m.block D aX).trans d);have h7:=m.size;clear h1 h2 h3 h4 R d m ai;gi_wp2;refine⟨trivial,ac.mono ?_⟩;rintro e aP ⟨g,c,rfl,hc,b5,a6,a7,q⟩;have ab:=FR (n:=6-1)|>.2 ((FR (n:=6)).1 (kd g c x y hc aP a6 a7 b5));obtain⟨aK,Y,av⟩:=Hx3 (aF.below q) (X.trans (q.mono X.size)) ((q.block D (by omega)).trans au);have bq:=q.size;clear ac q a6 a7;gi_wp2;refine⟨trivial,ab.mono ?_⟩;rintro e a5 ⟨⟨⟨C,n0,u⟩,⟨E,A,v⟩,⟨F,B,z⟩⟩,rfl,af,r⟩;have V:=aK.below r;obtain⟨bT,bV,bX,f0,f1,f2⟩:=V.three;have ah:=((V.set 0 (.slice C n0 u)).set 1 (.slice E A v)).set 2 (.slice F B z);have J:=((Ad a5 (w+1+1) 0 (.slice C n0 u)).trans (Ad _ (w+1+1) 1 (.slice E A v))).trans (Ad _ (w+1+1) 2 (.slice F B z));have T:=Y.trans (r.mono Y.size);have bt:=r.size;obtain⟨N,aC,ay,ar⟩:=Hx4 ((J.block D (by omega) (by omega)).trans ((r.block D (by omega)).trans av)) ah (EU af J λb hb e=>by omega) (T.trans (J.below T.size λk hk=>by omega));clear V ah J af T r ab;dsimp only[sv];gi_wp2;have hr:∀M,some D=some M->0<=M/\∃o:Obj,(((a5.setCell ⟨w+1+1,0,none⟩ (.slice C n0 u)).setCell ⟨w+1+1,1,none⟩ (.slice E A v)).setCell ⟨w+1+1,2,none⟩ (.slice F B z)).heap[M]?=some o/\o.isCells=false:=λM e=>by cases e;exact⟨A7 _,_,N,rfl⟩
  refine⟨by simp, .inl ⟨_,_,rfl,I0 N,?_⟩⟩;obtain⟨b8,t1,t2,_⟩:=(DY _ _ _ 0 () _ _ _ aC (Hv _ D (.deferred none)) hr).three;refine⟨.agg #[.slice C n0 u, .slice E A v, .slice F B z],by simp[results,Tryz.f196,go_sem,b8,t1,t2],((C,n0,u),(E,A,v),(F,B,z)),rfl,Dq (Rz _ _ _ 0 () _ _ _ ay (Hv _ D (.deferred none)) hr) λb _ hb=>by omega,ar.trans (belowK_b (w:=a4) ag _ D _ _ aV N rfl rfl)⟩
theorem mB{w0:World}{n:NS}{t:Tr}(h:Bp w0 n t)(x y:Int)(hk:∀p∈t,p.1=x)(w:World)(a:Below w0 w0 w):
 Calls prog 196 #[.agg #[sv n.1,sv n.2.1,sv n.2.2], x, y] w λe w'=>∃s:NS,e= .returned (.agg #[sv s.1,sv s.2.1,sv s.2.2])/\NodeP w' (λb=>w<b) s [(x,y)]/\Below w w w':=
 (FR (n:=6)).1 (mA h x y hk w a)
end
end Go.Proofs.YtmajkjjjfodhlaaGreatDoor
