/- Part Mbk. No condition of its own. -/
import Derived.Test.YtmajkjjjfodhlaaGreatDoorMbj
namespace Go.Proofs.YtmajkjjjfodhlaaGreatDoor
open Go.RowKit Tryz Go.Shelf
set_option linter.all false
set_option maxRecDepth 100000
set_option maxHeartbeats 8000000
def Yr(a b:World)(L:List EH):Prop:=∃c h i d e j f g:Value,L=[(⟨#[99,114,101,97,116,101]⟩, .agg #[.int .i64 0,c]),(⟨#[100,101,108,101,116,101]⟩, .agg #[.int .i64 1,h]),(⟨#[114,101,115,105,122,101]⟩, .agg #[.int .i64 2,i]),(⟨#[114,101,97,100]⟩, .agg #[.int .i64 3,d]),(⟨#[119,114,105,116,101]⟩, .agg #[.int .i64 4,e]),(⟨#[100,105,115,99,97,114,100]⟩, .agg #[.int .i64 5,j]),(⟨#[115,110,97,112]⟩, .agg #[.int .i64 6,f]),(⟨#[102,108,117,115,104]⟩, .agg #[.int .i64 7, .slice none 0 0]),(⟨#[115,116,97,116,117,115]⟩, .agg #[.int .i64 8, .slice none 0 0]),(⟨#[99,111,109,112,97,99,116]⟩, .agg #[.int .i64 9,g])]/\
 FX a.heap.size a b L/\C8 b c [Ae a.heap.size,Ae (a+1+1+1+1+1+1+1+1+1)]/\C8 b d [Ae a.heap.size,Ae (a+1+1+1+1+1+1)]/\C8 b e [Ae a.heap.size,Ae (a+1+1+1+1+1+1),GT]/\C8 b f [Ae a.heap.size,Ae (a+1+1+1)]/\C8 b g [Ae (a+1+1+1+1+1+1+1+1+1)]
theorem Ys(w:World):Calls prog 288 #[] w λe w'=>(∃v,e= .returned v/\∃a b L,v= .map (some (a.heap.size+1+1+1+1+1+1+1+1+1+1+1+1+1))/\Yr a b L/\Below w.heap.size w a/\Below b.heap.size b w')/\Below w.heap.size w w':=by
 refine(nL w).mono ?_;rintro e w' ⟨rfl,d,f,g,h,i,j,k,l,hs,h0,_,_,h3,h4,_,h6,c⟩;exact⟨⟨_,rfl,w,w',_,rfl,⟨d,f,g,h,i,j,k,l,rfl,hs,h0,h3,h4,h6,c⟩,A2 _ _,A2 _ _⟩,hs.low⟩
structure Jv(n:Nat)(W:World):Prop where
 f1:W.cell? ⟨n,0,none⟩=some (.func (.func 337) #[] #[])
 f2:W.cell? ⟨n+1+1+1,0,none⟩=some (.func (.func 338) #[] #[])
 f3:W.cell? ⟨n+1+1+1+1+1+1,0,none⟩=some (.func (.func 339) #[] #[])
 f4:W.cell? ⟨n+1+1+1+1+1+1+1+1+1,0,none⟩=some (.func (.func 340) #[] #[])
 size:n+14≤W.heap.size
theorem FX.f{n:Nat}{w a b:World}{L:List EH}(h:FX n w a L)(hb:Below a a b):Jv n b:=by
 have hs:=h.size;exact⟨(hb.cell (p:=⟨_,0,none⟩) (by show n<_;omega)).trans h.f1,(hb.cell (p:=⟨_,0,none⟩) (by show n+1+1+1<_;omega)).trans h.f2,(hb.cell (p:=⟨_,0,none⟩) (by show n+1+1+1+1+1+1<_;omega)).trans h.f3,(hb.cell (p:=⟨_,0,none⟩) (by show n+1+1+1+1+1+1+1+1+1<_;omega)).trans h.f4,A8 hs hb.size⟩
theorem Jv.low{n:Nat}{a b:World}(h:Jv n a)(hb:Below a a b):Jv n b:=by
 have hs:=h.size;exact⟨(hb.cell (p:=⟨_,0,none⟩) (by show n<_;omega)).trans h.f1,(hb.cell (p:=⟨_,0,none⟩) (by show n+1+1+1<_;omega)).trans h.f2,(hb.cell (p:=⟨_,0,none⟩) (by show n+1+1+1+1+1+1<_;omega)).trans h.f3,(hb.cell (p:=⟨_,0,none⟩) (by show n+1+1+1+1+1+1+1+1+1<_;omega)).trans h.f4,A8 hs hb.size⟩
theorem Jv.kept{n p:Nat}{b c:World}(h:Jv n b)(a:Ac b c (λk=>k=p))(hp:p<n\/n+14<=p):Jv n c:=by
 have hs:=h.size;exact⟨(a.cell (by omega) (by omega)).trans h.f1,(a.cell (by omega) (by omega)).trans h.f2,(a.cell (by omega) (by omega)).trans h.f3,(a.cell (by omega) (by omega)).trans h.f4,A8 hs a.size⟩
theorem Si{P:Program}{d:Region.Mode}{ops:Array Oper}{Q:Exit->Act->World->Prop}{S S':World->Prop}(h:∀w,S' w->S w):∀(fuel:Nat) (c:Array Bool) (a:Act) (w:World),wpAnyH P d ops Q S' fuel c a w->wpAnyH P d ops Q S fuel c a w
 |0,_,_,_,h0=>h0
 |fuel+1,_,_,_,h0=>⟨h0.1,λi f=>wpOp_mono (λe w' b=>⟨h _ b.1,Si h fuel _ e w' b.2⟩) (h0.2 i f)⟩
def MN(b:World)(v:Value)(a:List Value):Prop:=C8 b v a\/(v= .slice none 0 0/\a=[])
theorem MN.shape{e:World}{v:Value}{c:List Value}(h:MN e v c):∃a,v= .slice a c.length c.length/\∀i (d:i<c.length),∃b,a=some ⟨b,0,none⟩/\b<e.heap.size/\e.cell? ⟨b,i,none⟩=some c[i]:=by
 rcases h with⟨b,rfl,hb⟩|⟨rfl,rfl⟩
 ·exact⟨_,rfl,λi d=>⟨b,rfl,hb.lt,hb.cell i (Bl d)⟩⟩
 ·exact⟨none,rfl,λi d=>by simp at d⟩
theorem MN.shapeB{d:World}{v:Value}{c:List Value}(h:MN d v c):∃a,v= .slice a c.length c.length/\∀i,i<c.length->∃b,a=some ⟨b,0,none⟩/\Aa d b c 375:=by
 rcases h with⟨b,rfl,hb⟩|⟨rfl,rfl⟩
 ·exact⟨_,rfl,λi _=>⟨b,rfl,hb⟩⟩
 ·exact⟨none,rfl,λi e=>by simp at e⟩
theorem Lr{a:World}{b p:Nat}{vs f:List Value}{T c:TypeId}(h:Aa a b vs T)(k:Aa a p f c)(d:T≠c):b≠p:=λe=>by
 subst e;have h1:a.heap[b]?=_:=h;rw[show a.heap[b]?=_ from k] at h1;injection h1 with h1;injection h1 with _ h1 _;exact d h1.symm
theorem Dp.kept{b c:World}{a p:Nat}{L:List EH}(h:Dp b a L)(g:Ac b c (λk=>k=p))(i:a≠p):Dp c a L:=by
 have hl:=h.lt;obtain⟨e,d,f,hm⟩:=h;exact⟨e,d,(g.block a hl i).trans f,hm⟩
theorem IK(s:ByteArray)(all:List ByteArray)(D:ByteArray)(args:List ByteArray)(x:Int)(d:Nat->Rq)(w:World)(hp:El s all)(co:s.size<=1000000)(cc:all.length<=1000000)(cp:C9 all=D::args)(d5:args.length<=10)(cm:d 0=⟨x,0,0,0,0,⟨#[]⟩⟩)
 (hform:∀l J L,Yr l J L->∃v r,Gp L D=some (.agg #[x,v])/\MN J v r/\r.length=args.length/\∀c2,Jv l.heap.size c2->∀i (m:i<r.length) (aL:i<args.length),Lo c2 r[i] args[i] (d i) (d (i+1))):
 Calls prog 226 #[.string s] w λe w'=>e= .returned (.tuple #[Cy (d args.length), .bool true])/\Below w w w':=by
 obtain⟨HForm,bT⟩:=Hx2 hform cm;have b0:=Aa.new w [.int .i64 0, .int .i64 0, .int .i64 0, .int .i64 0, .int .i64 0, .string ⟨#[]⟩] 39;have cg:Below w w (w.alloc (.cells #[.int .i64 0, .int .i64 0, .int .i64 0, .int .i64 0, .int .i64 0, .string ⟨#[]⟩] 39)):=(A2 _ _).alloc (A1 _) _;have bq:=Yq s all (w.alloc (.cells #[.int .i64 0, .int .i64 0, .int .i64 0, .int .i64 0, .int .i64 0, .string ⟨#[]⟩] 39)) hp co cc;rw[cp] at bq;obtain⟨bX,aX,b2⟩:=Hx3 bq b0 cg;clear hform cm bq b0 cg hp co cc cp;go_enter func226,ntmps226;go_wp2_with fail;refine bX.mono ?_;rintro e J ⟨a,c,rfl,aP,G⟩;obtain⟨g,rfl,T⟩:=EM aP (by simp);have bc:∀i (m:i<(D::args).length),J.cell? ⟨g,i,none⟩=some (.string (D::args)[i]):=λi m=>(BQ aP (by rw[Hp,Bl m];rfl)).1;have ch:=AM aP g rfl;obtain⟨HCell,b3,bO⟩:=Hx3 bc (b2.trans (G.mono b2.size)) (aX.below G);have cj:w.heap.size<J.heap.size:=(aX.below G).lt;have c5:J.cell? ⟨g,0,none⟩=some (.string D):=bc 0 (by simp);clear aP G bc bX aX b2 T;rw[BV];have g1:((args.length:Int)+1==0)=false:=beq_eq_false_iff_ne.2 (by omega);go_wp2_with fail;refine BM (S:=λM=>M.cell? ⟨g,0,none⟩=some (.string D)) (by kernel_rfl) 11 rfl c5 (λA=>?_);have b6:=(A2 J.heap.size J).drew;obtain⟨cK,cy⟩:=Hx2 (b3.trans (b6.mono b3.size)) (bO.below b6);have cz:Hid (∀i (m:i<(D::args).length),J.drew.cell? ⟨g,i,none⟩=some (.string (D::args)[i])):=HCell.out;have ah:g<J.drew.heap.size:=ch;have da:w.heap.size<J.drew.heap.size:=cj;clear b6 b3 bO HCell ch cj c5;generalize J.drew=y at*;refine Ab 1 A ?_;refine Px ?_;refine Ab (v:= .pointer (some ⟨g,0,none⟩)) 2 A ?_ (hy:=by intro w' N;have g2:(0:Int)<(args.length:Int)+1:=(by omega);go_simp);refine Px ?_;refine Ab 3 A ?_;refine Px ?_;apply O8;focus
  intro key;refine Li 0 8 (λK u=>?_) (λK u=>?_);rotate_left;focus
   go_simp;have I:Below y y (y.alloc (.cells #[.int .i64 0, .slice none 0 0] 369)):=(A2 _ _).alloc (A1 _) _;have b9:=Aa.new y [.int .i64 0, .slice none 0 0] 369;have X:(y.alloc (.cells #[.int .i64 0, .slice none 0 0] 369)).cell? ⟨g,0,none⟩=some (.string D):=(I.cell (p:=⟨g,0,none⟩) ah).trans A;refine u _ _ X (λ_=>?_);clear u K;obtain⟨p,al⟩:∃p,y.heap.size=p:=⟨_,rfl⟩;have cl:p<(y.alloc (.cells #[.int .i64 0, .slice none 0 0] 369)).heap.size:=by rw[Bx];omega
   obtain⟨z,ca⟩:∃z,y.alloc (.cells #[.int .i64 0, .slice none 0 0] 369)=z:=⟨_,rfl⟩;rw[ca] at I b9 X cl⊢;clear ca;refine Px ?_;refine Ao 0 (λK u=>?_);go_simp;refine(Ys z).mono ?_;rintro e E ⟨⟨v,rfl,l,ap,L,rfl,a1,Y,O⟩,ax⟩;obtain⟨d3,r,hf,ag,a2,U⟩:=HForm l ap L a1;have V:FX l.heap.size l ap L:=by obtain⟨_,_,_,_,_,_,_,_,_,hs,_⟩:=a1;exact hs
   obtain⟨j,rfl,ao⟩:=ag.shapeB;rw[a2] at hf;have a0:Dp E (l.heap.size+1+1+1+1+1+1+1+1+1+1+1+1+1) L:=V.map.below O;have P:Aa E p [.int .i64 0, .slice none 0 0] 369:=by rw[<-al];exact(b9.below ax)
   have B:=And.intro ((ax.cell (p:=⟨g,0,none⟩) (B3 ah I.size)).trans X) a0;have a9:=V.f O;have Q:=I.trans (ax.mono I.size);have aj:(l.heap.size+1+1+1+1+1+1+1+1+1+1+1+1+1)≠p:=by have:=Y.size;omega
   have ak:p<l.heap.size\/l.heap.size+14<=p:=Or.inl (by have:=Y.size;omega);have an:∀i,i<r.length->∃b,j=some ⟨b,0,none⟩/\Aa E b r 375:=λi m=>by
    obtain⟨b,h1,h2⟩:=ao i m;exact⟨b,h1,h2.below O⟩
   have bl:g≠p:=by omega
   have aT:y.heap.size<=p:=by omega
   refine u _ _ B.1 (λ_=>?_);clear u K;refine Px ?_;refine Si (S':=λM=>M.cell? ⟨g,0,none⟩=some (.string D)/\Dp M (l.heap.size+1+1+1+1+1+1+1+1+1+1+1+1+1) L) (λ_ h=>h.1) _ _ _ _ ?_;refine Ab (v:= .tuple #[.agg #[x, .slice j args.length args.length], .bool true]) 4 B ?_ (hy:=by intro w' N;have q:=Sb underlying371 w' _ L D _ N.2 hf;go_simp);refine Ab 5 B ?_;refine Ab 6 B ?_;refine Ab 7 B ?_;refine Px ?_;refine Ao 9 (λK u=>?_);obtain⟨f0,f1,aq,ar⟩:=P.two;go_simp;have C:=(Ad E p 0 (.int .i64 x)).trans (Ad _ p 1 (.slice j args.length args.length));have a5:=(P.set 0 (.int .i64 x)).set 1 (.slice j args.length args.length);have ai:=a0.kept C (aj);have aa:=And.intro ((C.cell (o:=0) (by have:=Q.size;omega) (by omega:¬g=p)).trans B.1) ai;have a8:=a9.kept C ak;have af:Hid (∀i (m:i<r.length),∃b,j=some ⟨b,0,none⟩/\b<((E.setCell ⟨p,0,none⟩ (.int .i64 x)).setCell ⟨p,1,none⟩ (.slice j args.length args.length)).heap.size/\((E.setCell ⟨p,0,none⟩ (.int .i64 x)).setCell ⟨p,1,none⟩ (.slice j args.length args.length)).cell? ⟨b,i,none⟩=some r[i]):=λi m=>by
    obtain⟨b,b7,G⟩:=an i m;have bb:b≠p:=Lr G P (by decide);exact⟨b,b7,B3 G.lt C.size,(C.cell G.lt bb).trans (G.cell i (Bl m))⟩
   have ad:Below y y ((E.setCell ⟨p,0,none⟩ (.int .i64 x)).setCell ⟨p,1,none⟩ (.slice j args.length args.length)):=Q.trans (C.below Q.size (λk e=>by omega));refine u _ _ aa (λab=>?_);clear u K f0 f1 aq ar;have ac:=λi m aL=>U _ a8 i m aL;clear U a8 a9 aa ai a0 B P an hf a1 Q C aj ak V ag ao I b9 X cl Y O ax;generalize (E.setCell ⟨p,0,none⟩ (.int .i64 x)).setCell ⟨p,1,none⟩ (.slice j args.length args.length)=t at*;refine Px ?_;refine Ab 10 ab ?_;refine Px ?_;refine Bc (by kernel_rfl) ?_ _;obtain⟨a7,R,W,a6⟩:=Hx4 af ad a5 ac;clear af ad a5 ac;clear bl al ab;generalize (l.heap.size+1+1+1+1+1+1+1+1+1+1+1+1+1)=a3;revert a6 W R a7 aT a2;revert r j p t a3;exact key
  focus
   go_simp;refine(Ys y).mono ?_;rintro e z ⟨⟨v,rfl,l,ap,L,rfl,a1,Y,O⟩,I⟩;obtain⟨d3,r,hf,ag,a2,U⟩:=HForm l ap L a1;have V:FX l.heap.size l ap L:=by obtain⟨_,_,_,_,_,_,_,_,_,hs,_⟩:=a1;exact hs
   obtain⟨j,rfl,ao⟩:=ag.shapeB;rw[a2] at hf;have a0:=V.map.below O;have B:z.cell? ⟨g,0,none⟩=some (.string D)/\Dp z (l.heap.size+1+1+1+1+1+1+1+1+1+1+1+1+1) L:=And.intro ((I.cell (p:=⟨g,0,none⟩) ah).trans A) a0;have a9:=V.f O;have an:∀i,i<r.length->∃b,j=some ⟨b,0,none⟩/\Aa z b r 375:=λi m=>by
    obtain⟨b,h1,h2⟩:=ao i m;exact⟨b,h1,h2.below O⟩
   have bp:l.heap.size+14<=z.heap.size:=A8 V.size O.size;refine u _ _ B.1 (λ_=>?_);clear u K;refine Px ?_;refine Si (S':=λM=>M.cell? ⟨g,0,none⟩=some (.string D)/\Dp M (l.heap.size+1+1+1+1+1+1+1+1+1+1+1+1+1) L) (λ_ h=>h.1) _ _ _ _ ?_;refine Ab (v:= .tuple #[.agg #[x, .slice j args.length args.length], .bool true]) 4 B ?_ (hy:=by intro w' N;have q:=Sb underlying371 w' _ L D _ N.2 hf;go_simp);refine Ab 5 B ?_;refine Ab 6 B ?_;refine Ab 7 B ?_;refine Px ?_;refine Ao 8 (λK u=>?_);go_simp;have a4:Below z z (z.alloc (.cells #[.int .i64 0, .slice none 0 0] 369)):=(A2 _ _).alloc (A1 _) _;have P:=Aa.new z [.int .i64 0, .slice none 0 0] 369;have av:=And.intro ((a4.cell (p:=⟨g,0,none⟩) (B3 ah I.size)).trans B.1) (a0.below a4);have c7:=a9.low a4;refine u _ _ av (λ_=>?_);clear u K;obtain⟨p,al⟩:∃p,z.heap.size=p:=⟨_,rfl⟩;have b5:y.heap.size<=z.heap.size:=I.size;have Q:=I.trans (a4.mono I.size);have cr:∀i,i<r.length->∃b,j=some ⟨b,0,none⟩/\Aa (z.alloc (.cells #[.int .i64 0, .slice none 0 0] 369)) b r 375:=λi m=>by
    obtain⟨b,h1,h2⟩:=an i m;exact⟨b,h1,h2.below a4⟩
   clear an;rw[al] at P b5 bp⊢;generalize z.alloc (.cells #[.int .i64 0, .slice none 0 0] 369)=E at*;have aj:(l.heap.size+1+1+1+1+1+1+1+1+1+1+1+1+1)≠p:=by omega
   have ak:p<l.heap.size\/l.heap.size+14<=p:=Or.inr bp;have bl:g≠p:=by omega
   have aT:y.heap.size<=p:=b5;refine Px ?_;refine Ao 9 (λK u=>?_);obtain⟨f0,f1,aq,ar⟩:=P.two;go_simp;have C:=(Ad E p 0 (.int .i64 x)).trans (Ad _ p 1 (.slice j args.length args.length));have a5:=(P.set 0 (.int .i64 x)).set 1 (.slice j args.length args.length);have ai:=av.2.kept C (aj);have aa:=And.intro ((C.cell (o:=0) (by have:=Q.size;omega) (by omega:¬g=p)).trans av.1) ai;have a8:=c7.kept C ak;have af:Hid (∀i (m:i<r.length),∃b,j=some ⟨b,0,none⟩/\b<((E.setCell ⟨p,0,none⟩ (.int .i64 x)).setCell ⟨p,1,none⟩ (.slice j args.length args.length)).heap.size/\((E.setCell ⟨p,0,none⟩ (.int .i64 x)).setCell ⟨p,1,none⟩ (.slice j args.length args.length)).cell? ⟨b,i,none⟩=some r[i]):=λi m=>by
    obtain⟨b,b7,G⟩:=cr i m;have bb:b≠p:=Lr G P (by decide);exact⟨b,b7,B3 G.lt C.size,(C.cell G.lt bb).trans (G.cell i (Bl m))⟩
   have ad:Below y y ((E.setCell ⟨p,0,none⟩ (.int .i64 x)).setCell ⟨p,1,none⟩ (.slice j args.length args.length)):=Q.trans (C.below Q.size (λk e=>by omega));refine u _ _ aa (λab=>?_);clear u K f0 f1 aq ar;have ac:=λi m aL=>U _ a8 i m aL;clear U a8 a9 c7 aa ai av a0 B P cr hf a1 Q C aj ak V ag ao I a4 Y O bp b5;generalize (E.setCell ⟨p,0,none⟩ (.int .i64 x)).setCell ⟨p,1,none⟩ (.slice j args.length args.length)=t at*;refine Px ?_;refine Ab 10 ab ?_;refine Px ?_;refine Bc (by kernel_rfl) ?_ _;obtain⟨a7,R,W,a6⟩:=Hx4 af ad a5 ac;clear af ad a5 ac;clear bl al ab;generalize (l.heap.size+1+1+1+1+1+1+1+1+1+1+1+1+1)=a3;revert a6 W R a7 aT a2;revert r j p t a3;exact λr j p t a3=>key p r j t a3
 intro p r j t a3 a2 aT a7 R W a6;obtain⟨cv,cw,aq,ar⟩:=W.two;have g2:((args.length:Int)!=IntKind.i64.wrap ((args.length:Int)+1-1))=false:=by
  rw[C0 _ (by omega)];simp
 have dk:y.heap.size<=t.heap.size:=R.size;have dd:p<t.heap.size:=W.lt;have aV:=Aa.new t (Kv (d 0)) 39;have Z:=AZ t (.cells (Kv (d 0)).toArray 39) (λk=>k=t.heap.size);rw[bT.out] at aV Z;go_wp2_with fail;clear cv cw aq ar g2 W;have bP:Hid (Aa (t.alloc (.cells #[x, .int .i64 0, .int .i64 0, .int .i64 0, .int .i64 0, .string ⟨#[]⟩] 39)) t.heap.size (Kv (d 0)) 39):=by rw[bT.out];exact aV
 have bR:Hid (Ac t (t.alloc (.cells #[x, .int .i64 0, .int .i64 0, .int .i64 0, .int .i64 0, .string ⟨#[]⟩] 39)) (λk=>k=t.heap.size)):=Z;clear aV Z;go_loopw [42] (λbL wr=>∃k:Nat,bL= .int .i64 (k:Int)/\k<=args.length/\Aa wr t.heap.size (Kv (d k)) 39/\Ac t wr (λb=>b=t.heap.size)) (λbL _=>args.length-(intOf bL).toNat)
 case atStart=>exact⟨0,rfl,A7 _,bP,bR⟩
 case round=>
  clear bP bR;generalize wr=H at*;obtain⟨k,rfl,hk,au,T⟩:=hrel;obtain⟨bN,b1⟩:=Hx2 au T;have d6:=T.size;by_cases aM:k<args.length
  ·have ci:k<r.length:=by rw[a2];exact aM
   obtain⟨cL,rfl,Y,b4⟩:=a7 k ci;obtain⟨F,cap,cs,dc,U⟩:=a6 k ci aM;rw[cs] at b4;have c0:H.cell? ⟨cL,k,none⟩=some (.func (.func F) #[] cap):=(T.cell Y (by omega)).trans b4;have cS:k+1<(D::args).length:=by simp;exact aM
   have c1:H.cell? ⟨g,k+1,none⟩=some (.string args[k]):=(T.cell (by omega) (by omega)).trans ((R.cell (p:=⟨g,k+1,none⟩) ah).trans (cz (k+1) cS));have cP:g<H.heap.size:=by omega
   have cM:(k:Int)<(args.length:Int):=by omega
   have bV:=A0 U;clear au T b4 cs U;generalize args[k]=cu at*;go_wp2_with fail;have b8:Below H H (H.alloc (.cells #[.func (.func F) #[] cap] 375)):=(A2 _ _).alloc (A1 _) _;have aU:=Aa.new H [.func (.func F) #[] cap] 375;have aF:=(A2 (H.alloc (.cells #[.func (.func F) #[] cap] 375)).heap.size (H.alloc (.cells #[.func (.func F) #[] cap] 375))).drew;have bM:=(aU.below aF).cell 0 (v:= .func (.func F) #[] cap) rfl;have ay:=b8.trans (aF.mono b8.size);have c4:=(ay.cell (p:=⟨g,k+1,none⟩) cP).trans c1;have ct:=bN.below ay;have ck:=(aU.below aF).lt;have cT:=bN.lt;have Z:=b1.trans (Sd ay|>.mono λ_ _ e=>e.elim);refine BM (S:=λM=>M.cell? ⟨H,0,none⟩=some (.func (.func F) #[] cap)/\M.cell? ⟨g,k+1,none⟩=some (.string cu)) (by kernel_rfl) 9 rfl ⟨bM,c4⟩ (λA=>?_);clear b8 aU aF bM ay c4;generalize (H.alloc (.cells #[.func (.func F) #[] cap] 375)).drew=d4 at*;have c9:=bV d4 t.heap.size (Z.below (A1 _) (λ_ e=>by omega)) (A1 _) ct;refine Ab 0 A ?_;refine Ab (v:= .func (.func F) #[] cap) 1 A ?_ (hy:=by intro w' N;have q:=N.1;go_simp);refine Ab 2 A ?_;refine Ab 3 A ?_;refine Px ?_;refine Ab (v:= .int .i64 ((k:Int)+1)) 4 A ?_ (hy:=by intro w' N;have cq:IntKind.i64.wrap ((k:Int)+1)=(k:Int)+1:=C0 _ (by omega);go_simp);refine Px ?_;refine Ab (v:= .pointer (some ⟨g,k+1,none⟩)) 5 A ?_ (hy:=by intro w' N;have cq:(0:Int)<=(k:Int)+1:=(by omega);have dn:(k:Int)+1<(args.length:Int)+1:=(by omega);go_simp);refine Ab (v:= .string cu) 6 A ?_ (hy:=by intro w' N;have q:=N.2;go_simp);refine Px ?_;refine Ao 7 (λK u=>?_);go_simp;refine c9.mono ?_;rintro e ds ⟨rfl,c6,aK⟩;have X:=And.intro ((aK.cell ck (by omega)).trans A.1) ((aK.cell (by omega) (by omega)).trans A.2);refine u _ _ X (λc8=>?_);clear u K;refine Px ?_;refine Ab 8 c8 ?_;refine Px ?_;refine Bc (by kernel_rfl) ?_ _;obtain⟨cx,cF⟩:=Hx2 c6 (Z.trans aK);clear X c8 A c6 aK Z ct ck cT c9 c0 c1 bV;have cq:IntKind.i64.wrap ((k:Int)+1)=(k:Int)+1:=C0 _ (by omega);go_wp2_with fail;refine⟨⟨k+1,by rw[Int.natCast_add];rfl,aM,cx,cF⟩,?_⟩;show args.length-((k:Int)+1).toNat<args.length-(k:Int).toNat;omega
  ·obtain rfl:k=args.length:=by omega
   have b0:=(cy.below (R.mono (A1 _)));have aC:=b1.blk b0 (by omega);obtain⟨bs,bt,bu,bw,bx,bK⟩:=aC.six;obtain⟨dT,e0,e1,e2,e3,e4⟩:=aC.fz6;obtain⟨cU,cV,cX,d0,d1,d2⟩:=au.six;have cM:¬(args.length:Int)<(args.length:Int):=by omega
   have cC:=A0 aC;clear au T aC b0;go_wp2_with fail;have h1:=(((((cC.set 0 (.int .i64 (d args.length).op)).set 1 (.int .i64 (d args.length).vol)).set 2 (.int .i64 (d args.length).tv)).set 3 (.int .i64 (d args.length).blk)).set 4 (.int .i64 (d args.length).n)).set 5 (.string (d args.length).text);have h2:=(((((Ad H w.heap.size 0 (.int .i64 (d args.length).op)).trans (Ad _ w.heap.size 1 (.int .i64 (d args.length).vol))).trans (Ad _ w.heap.size 2 (.int .i64 (d args.length).tv))).trans (Ad _ w.heap.size 3 (.int .i64 (d args.length).blk))).trans (Ad _ w.heap.size 4 (.int .i64 (d args.length).n))).trans (Ad _ w.heap.size 5 (.string (d args.length).text));obtain⟨c3,cb⟩:∃c3,(((((H.setCell ⟨w,0,none⟩ (.int .i64 (d args.length).op)).setCell ⟨w,1,none⟩ (.int .i64 (d args.length).vol)).setCell ⟨w,2,none⟩ (.int .i64 (d args.length).tv)).setCell ⟨w,3,none⟩ (.int .i64 (d args.length).blk)).setCell ⟨w,4,none⟩ (.int .i64 (d args.length).n)).setCell ⟨w,5,none⟩ (.string (d args.length).text)=c3:=⟨_,rfl⟩;rw[cb] at h1 h2⊢;clear cb bs bt bu bw bx bK cU cV cX d0 d1 d2;obtain⟨bs,bt,bu,bw,bx,bK⟩:=h1.six;refine A5 (v:= .tuple #[Cy (d args.length), .bool true]) (by simp[results,results226,go_sem,bs,bt,bu,bw,bx,bK]) rfl ?_;have ha:=cK.trans (R.mono (by omega));have hb:Below w t H:=b1.below (by omega) (λ_ e=>by omega);exact⟨rfl,(ha.trans hb).trans (h2.below (by omega) (λ_ e=>by omega))⟩
abbrev DV:ByteArray:=strOfNums (List.replicate 256 97)
abbrev DW:ByteArray:=strOfNums (Ft 5 256)
def n7:Nat->Rq
 |0=>⟨0,0,0,0,0,⟨#[]⟩⟩
 |1=>⟨0,1,0,0,0,⟨#[]⟩⟩
 |_=>⟨0,1,0,0,3,⟨#[]⟩⟩
theorem n8(w:World):Calls prog 226 #[.string ⟨#[99,114,101,97,116,101,32,49,32,51]⟩] w λe w'=>e= .returned (.tuple #[Cy ⟨0,1,0,0,3,⟨#[]⟩⟩, .bool true])/\Below w w w':=by
 have hp:El ⟨#[99,114,101,97,116,101,32,49,32,51]⟩ [⟨#[99,114,101,97,116,101]⟩,⟨#[49]⟩,⟨#[51]⟩]:= .more 6 (by decide) (.more 1 (by decide) (.last (by decide)));refine IK _ _ ⟨#[99,114,101,97,116,101]⟩ [⟨#[49]⟩,⟨#[51]⟩] 0 n7 w hp (by decide) (by decide) (by decide) (by decide) rfl ?_;rintro r s L ⟨d,j,l,m,n,o,p,q,rfl,hs,h0,h3,h4,h6,g⟩;refine⟨d,_,rfl,Or.inl h0,rfl,λf a i b c=>?_⟩;have h:=a.size
 match i,b,c with
 |0,_,_=>exact Lp a.f1 (by omega) 49 (Or.inl rfl) _
 |1,_,_=>exact Se a.f4 (by omega) 51 (Or.inr (Or.inr (Or.inl rfl))) _
 |k+2,b,_=>exact absurd b (by simp)
def oc:Nat->Rq
 |0=>⟨4,0,0,0,0,⟨#[]⟩⟩
 |1=>⟨4,1,0,0,0,⟨#[]⟩⟩
 |2=>⟨4,1,0,2,0,⟨#[]⟩⟩
 |_=>⟨4,1,0,2,0,DV⟩
theorem od(w:World):Calls prog 226 #[.string ⟨#[119,114,105,116,101,32,49,32,50,32,97]⟩] w λe w'=>e= .returned (.tuple #[Cy ⟨4,1,0,2,0,DV⟩, .bool true])/\Below w w w':=by
 have hp:El ⟨#[119,114,105,116,101,32,49,32,50,32,97]⟩ [⟨#[119,114,105,116,101]⟩,⟨#[49]⟩,⟨#[50]⟩,⟨#[97]⟩]:= .more 5 (by decide) (.more 1 (by decide) (.more 1 (by decide) (.last (by decide))));refine IK _ _ ⟨#[119,114,105,116,101]⟩ [⟨#[49]⟩,⟨#[50]⟩,⟨#[97]⟩] 4 oc w hp (by decide) (by decide) (by decide) (by decide) rfl ?_;rintro r s L ⟨j,l,m,n,d,o,p,q,rfl,hs,h0,h3,h4,h6,g⟩;refine⟨d,_,rfl,Or.inl h4,rfl,λf a i b c=>?_⟩;have h:=a.size
 match i,b,c with
 |0,_,_=>exact Lp a.f1 (by omega) 49 (Or.inl rfl) _
 |1,_,_=>exact Pe a.f3 (by omega) 50 (Or.inr (Or.inl rfl)) _
 |2,_,_=>exact Yo _ _ nf _
 |k+3,b,_=>exact absurd b (by simp)
def oe:Nat->Rq
 |0=>⟨4,0,0,0,0,⟨#[]⟩⟩
 |1=>⟨4,1,0,0,0,⟨#[]⟩⟩
 |2=>⟨4,1,0,2,0,⟨#[]⟩⟩
 |_=>⟨4,1,0,2,0,DW⟩
theorem og(w:World):Calls prog 226 #[.string ⟨#[119,114,105,116,101,32,49,32,50,32,114,53]⟩] w λe w'=>e= .returned (.tuple #[Cy ⟨4,1,0,2,0,DW⟩, .bool true])/\Below w w w':=by
 have hp:El ⟨#[119,114,105,116,101,32,49,32,50,32,114,53]⟩ [⟨#[119,114,105,116,101]⟩,⟨#[49]⟩,⟨#[50]⟩,⟨#[114,53]⟩]:= .more 5 (by decide) (.more 1 (by decide) (.more 1 (by decide) (.last (by decide))));refine IK _ _ ⟨#[119,114,105,116,101]⟩ [⟨#[49]⟩,⟨#[50]⟩,⟨#[114,53]⟩] 4 oe w hp (by decide) (by decide) (by decide) (by decide) rfl ?_;rintro r s L ⟨j,l,m,n,d,o,p,q,rfl,hs,h0,h3,h4,h6,g⟩;refine⟨d,_,rfl,Or.inl h4,rfl,λf a i b c=>?_⟩;have h:=a.size
 match i,b,c with
 |0,_,_=>exact Lp a.f1 (by omega) 49 (Or.inl rfl) _
 |1,_,_=>exact Pe a.f3 (by omega) 50 (Or.inr (Or.inl rfl)) _
 |2,_,_=>exact Yo _ _ (m9 53 (Or.inr (Or.inr (Or.inr (Or.inr rfl))))) _
 |k+3,b,_=>exact absurd b (by simp)
def oh:Nat->Rq
 |_=>⟨7,0,0,0,0,⟨#[]⟩⟩
theorem ol(w:World):Calls prog 226 #[.string ⟨#[102,108,117,115,104]⟩] w λe w'=>e= .returned (.tuple #[Cy ⟨7,0,0,0,0,⟨#[]⟩⟩, .bool true])/\Below w w w':=by
 have hp:El ⟨#[102,108,117,115,104]⟩ [⟨#[102,108,117,115,104]⟩]:= .last (by decide);refine IK _ _ ⟨#[102,108,117,115,104]⟩ [] 7 oh w hp (by decide) (by decide) (by decide) (by decide) rfl ?_;rintro o p L ⟨f,g,h,j,k,l,m,n,rfl,hs,h0,h3,h4,h6,c⟩;exact⟨_,[],rfl,Or.inr ⟨rfl,rfl⟩,rfl,λb d i a=>by simp at a⟩
def om:Nat->Rq
 |0=>⟨6,0,0,0,0,⟨#[]⟩⟩
 |1=>⟨6,1,0,0,0,⟨#[]⟩⟩
 |_=>⟨6,1,2,0,0,⟨#[]⟩⟩
theorem oo(w:World):Calls prog 226 #[.string ⟨#[115,110,97,112,32,49,32,50]⟩] w λe w'=>e= .returned (.tuple #[Cy ⟨6,1,2,0,0,⟨#[]⟩⟩, .bool true])/\Below w w w':=by
 have hp:El ⟨#[115,110,97,112,32,49,32,50]⟩ [⟨#[115,110,97,112]⟩,⟨#[49]⟩,⟨#[50]⟩]:= .more 4 (by decide) (.more 1 (by decide) (.last (by decide)));refine IK _ _ ⟨#[115,110,97,112]⟩ [⟨#[49]⟩,⟨#[50]⟩] 6 om w hp (by decide) (by decide) (by decide) (by decide) rfl ?_;rintro r s L ⟨j,l,m,n,o,p,d,q,rfl,hs,h0,h3,h4,h6,g⟩;refine⟨d,_,rfl,Or.inl h6,rfl,λf a i b c=>?_⟩;have h:=a.size
 match i,b,c with
 |0,_,_=>exact Lp a.f1 (by omega) 49 (Or.inl rfl) _
 |1,_,_=>exact nO a.f2 (by omega) 50 (Or.inr (Or.inl rfl)) _
 |k+2,b,_=>exact absurd b (by simp)
def oq:Nat->Rq
 |0=>⟨3,0,0,0,0,⟨#[]⟩⟩
 |1=>⟨3,2,0,0,0,⟨#[]⟩⟩
 |_=>⟨3,2,0,2,0,⟨#[]⟩⟩
theorem ov(w:World):Calls prog 226 #[.string ⟨#[114,101,97,100,32,50,32,50]⟩] w λe w'=>e= .returned (.tuple #[Cy ⟨3,2,0,2,0,⟨#[]⟩⟩, .bool true])/\Below w w w':=by
 have hp:El ⟨#[114,101,97,100,32,50,32,50]⟩ [⟨#[114,101,97,100]⟩,⟨#[50]⟩,⟨#[50]⟩]:= .more 4 (by decide) (.more 1 (by decide) (.last (by decide)));refine IK _ _ ⟨#[114,101,97,100]⟩ [⟨#[50]⟩,⟨#[50]⟩] 3 oq w hp (by decide) (by decide) (by decide) (by decide) rfl ?_;rintro r s L ⟨j,l,m,d,n,o,p,q,rfl,hs,h0,h3,h4,h6,g⟩;refine⟨d,_,rfl,Or.inl h3,rfl,λf a i b c=>?_⟩;have h:=a.size
 match i,b,c with
 |0,_,_=>exact Lp a.f1 (by omega) 50 (Or.inr (Or.inl rfl)) _
 |1,_,_=>exact Pe a.f3 (by omega) 50 (Or.inr (Or.inl rfl)) _
 |k+2,b,_=>exact absurd b (by simp)
def ow:Nat->Rq
 |0=>⟨3,0,0,0,0,⟨#[]⟩⟩
 |1=>⟨3,1,0,0,0,⟨#[]⟩⟩
 |_=>⟨3,1,0,2,0,⟨#[]⟩⟩
theorem ox(w:World):Calls prog 226 #[.string ⟨#[114,101,97,100,32,49,32,50]⟩] w λe w'=>e= .returned (.tuple #[Cy ⟨3,1,0,2,0,⟨#[]⟩⟩, .bool true])/\Below w w w':=by
 have hp:El ⟨#[114,101,97,100,32,49,32,50]⟩ [⟨#[114,101,97,100]⟩,⟨#[49]⟩,⟨#[50]⟩]:= .more 4 (by decide) (.more 1 (by decide) (.last (by decide)));refine IK _ _ ⟨#[114,101,97,100]⟩ [⟨#[49]⟩,⟨#[50]⟩] 3 ow w hp (by decide) (by decide) (by decide) (by decide) rfl ?_;rintro r s L ⟨j,l,m,d,n,o,p,q,rfl,hs,h0,h3,h4,h6,g⟩;refine⟨d,_,rfl,Or.inl h3,rfl,λf a i b c=>?_⟩;have h:=a.size
 match i,b,c with
 |0,_,_=>exact Lp a.f1 (by omega) 49 (Or.inl rfl) _
 |1,_,_=>exact Pe a.f3 (by omega) 50 (Or.inr (Or.inl rfl)) _
 |k+2,b,_=>exact absurd b (by simp)
def oy:Nat->Rq
 |0=>⟨9,0,0,0,0,⟨#[]⟩⟩
 |_=>⟨9,0,0,0,2,⟨#[]⟩⟩
theorem oz(w:World):Calls prog 226 #[.string ⟨#[99,111,109,112,97,99,116,32,50]⟩] w λe w'=>e= .returned (.tuple #[Cy ⟨9,0,0,0,2,⟨#[]⟩⟩, .bool true])/\Below w w w':=by
 have hp:El ⟨#[99,111,109,112,97,99,116,32,50]⟩ [⟨#[99,111,109,112,97,99,116]⟩,⟨#[50]⟩]:= .more 7 (by decide) (.last (by decide));refine IK _ _ ⟨#[99,111,109,112,97,99,116]⟩ [⟨#[50]⟩] 9 oy w hp (by decide) (by decide) (by decide) (by decide) rfl ?_;rintro r s L ⟨j,l,m,n,o,p,q,f,rfl,hs,h0,h3,h4,h6,c⟩;refine⟨f,_,rfl,Or.inl c,rfl,λg b i a d=>?_⟩;have h:=b.size
 match i,a,d with
 |0,_,_=>exact Se b.f4 (by omega) 50 (Or.inr (Or.inl rfl)) _
 |k+1,a,_=>exact absurd a (by simp)
def oA:Nat->Rq
 |0=>⟨9,0,0,0,0,⟨#[]⟩⟩
 |_=>⟨9,0,0,0,4,⟨#[]⟩⟩
theorem oB(w:World):Calls prog 226 #[.string ⟨#[99,111,109,112,97,99,116,32,52]⟩] w λe w'=>e= .returned (.tuple #[Cy ⟨9,0,0,0,4,⟨#[]⟩⟩, .bool true])/\Below w w w':=by
 have hp:El ⟨#[99,111,109,112,97,99,116,32,52]⟩ [⟨#[99,111,109,112,97,99,116]⟩,⟨#[52]⟩]:= .more 7 (by decide) (.last (by decide));refine IK _ _ ⟨#[99,111,109,112,97,99,116]⟩ [⟨#[52]⟩] 9 oA w hp (by decide) (by decide) (by decide) (by decide) rfl ?_;rintro r s L ⟨j,l,m,n,o,p,q,f,rfl,hs,h0,h3,h4,h6,c⟩;refine⟨f,_,rfl,Or.inl c,rfl,λg b i a d=>?_⟩;have h:=b.size
 match i,a,d with
 |0,_,_=>exact Se b.f4 (by omega) 52 (Or.inr (Or.inr (Or.inr (Or.inl rfl)))) _
 |k+1,a,_=>exact absurd a (by simp)
theorem Sj{w:World}{b:Nat}{T:TypeId}{p q r s t u v x y z o:Value}(h:Aa w b [p,q,r,s,t,u,v,x,y,z,o] T)(c d e f g i j l m n:Value):∀a,((((((((((w.setCell ⟨b,0,none⟩ c).setCell ⟨b,1,none⟩ d).setCell ⟨b,2,none⟩ e).setCell ⟨b,3,none⟩ f).setCell ⟨b,4,none⟩ g).setCell ⟨b,5,none⟩ i).setCell ⟨b,6,none⟩ j).setCell ⟨b,7,none⟩ l).setCell ⟨b,8,none⟩ m).setCell ⟨b,9,none⟩ n)=a->
 Aa a b [c,d,e,f,g,i,j,l,m,n,o] T/\Ac w a (λk=>k=b):=by
 rintro a rfl;exact⟨(((((((((h.set 0 c).set 1 d).set 2 e).set 3 f).set 4 g).set 5 i).set 6 j).set 7 l).set 8 m).set 9 n,(((((((((Ad _ _ _ _).trans (Ad _ _ _ _)).trans (Ad _ _ _ _)).trans (Ad _ _ _ _)).trans (Ad _ _ _ _)).trans (Ad _ _ _ _)).trans (Ad _ _ _ _)).trans (Ad _ _ _ _)).trans (Ad _ _ _ _)).trans (Ad _ _ _ _)⟩
theorem oC(X:Nat->Prop)(v:Value)(b:Nat)(w:World)(hs:Ef w v [⟨#[50]⟩,⟨#[52]⟩])(hb:Lm w b)(hX:∀k,X k->k<w.heap.size)(hXb:X b):
 Calls prog 145 #[.pointer (some ⟨b,0,none⟩),v] w λe w'=>e= .returned (.string ⟨#[111,107]⟩)/\AP X w' b (BE 2 4)/\Ac w w' (λk=>k=b):=by
 have R:=λf=>Yk ⟨#[50]⟩ _ 2 f rfl rfl oz;have S:=λf=>Yk ⟨#[52]⟩ _ 4 f rfl rfl oB;have Q:=λf=>Yb 2 4 (by omega) (by omega) (by omega) (by omega) (by omega) f;obtain⟨a,c,rfl,_⟩:∃a c,v= .slice a 2 c/\True:=by obtain⟨a,c,h,_⟩:=hs;exact⟨a,c,h,trivial⟩
 obtain⟨g,off,rfl,u,c0⟩:=RO hs (k:=0) (by decide);obtain⟨a1,aa,x,_,c1⟩:=RO hs (k:=1) (by decide);injection x with x;injection x with t1 t2 t3;subst t1 t2;have j:=A0 hb;have Y:w.cell? ⟨g,off,none⟩=some (.string ⟨#[50]⟩):=c0;have L:w.cell? ⟨g,off+1,none⟩=some (.string ⟨#[52]⟩):=c1;clear hs hb c0 c1;go_enter func145,ntmps145;go_wp2_with fail;refine(R _).mono ?_;rintro e ah ⟨rfl,s⟩;have d1:=(s.cell (p:=⟨g,off+1,none⟩) u).trans L;have l:=A0 s;clear R s Y L;go_wp2_with fail;refine(S _).mono ?_;rintro e a0 ⟨rfl,O⟩;have i:=A0 (l.trans (O.mono l.size));clear S O d1;go_wp2_with fail;refine(Q _).mono ?_;rintro e E ⟨ac,ab,ad,ag,af,rfl,y,t⟩;have K:=A0 (i.trans (t.mono i.size));have d:=(Aa.below j K);have a4:=(show Aa w b _ _ from j).lt;obtain⟨F,G,H,I,J,z,A,B,C,D,m,n,o,q,r,rfl,rfl,rfl,rfl,rfl⟩:=(y E (AW _ _)).shape;obtain⟨ai,aj,al,an,ao,ap,aq,ar,au,av,ak⟩:=d.fz11;obtain⟨i0,i1,i2,i3,i4,i5,a6,a7,a8,a9,a5⟩:=d.eleven;have a3:b<E.heap.size:=d.lt;obtain⟨V,T⟩:=Hx2 y d;have a2:=t.size;have Z:w<=a0.heap.size:=i.size;clear t y d l i j Q;generalize N:BE 2 4=P at*;have U:=A0 N;clear N;go_wp2_with fail;refine A5 (v:= .string ⟨#[111,107]⟩) (by simp[results,results145,go_sem]) rfl ?_;obtain⟨h1,g1⟩:=Sj T (.slice F z m) (.slice G A n) (.int .i64 P.disk.fuse) (.slice H B o) (.bool P.disk.dead) (.int .i64 P.mt) (.int .i64 P.gen) (.int .i64 P.area) (.slice I C q) (.slice J D r) _ rfl;have h2:=h1.set 10 (.bool true);have g2:=g1.trans (Ad _ b 10 (.bool true));have ha:=(A2 _ _).alloc (A1 (((((((((((E.setCell ⟨b,0,none⟩ (.slice F z m)).setCell ⟨b,1,none⟩ (.slice G A n)).setCell ⟨b,2,none⟩ (.int .i64 P.disk.fuse)).setCell ⟨b,3,none⟩ (.slice H B o)).setCell ⟨b,4,none⟩ (.bool P.disk.dead)).setCell ⟨b,5,none⟩ (.int .i64 P.mt)).setCell ⟨b,6,none⟩ (.int .i64 P.gen)).setCell ⟨b,7,none⟩ (.int .i64 P.area)).setCell ⟨b,8,none⟩ (.slice I C q)).setCell ⟨b,9,none⟩ (.slice J D r)).setCell ⟨b,10,none⟩ (.bool true)).heap.size) (.cells #[.slice F z m, .slice G A n, P.disk.fuse, .slice H B o, .bool P.disk.dead, P.mt, P.gen, P.area, .slice I C q, .slice J D r] 31);have M:=g2.trans ((Ai ha).mono λ_ _ e=>e.elim);refine⟨rfl,?_,((Sd (w:=w) K).mono λ_ _ e=>e.elim).trans M⟩;rw[U.out];exact⟨_,_,_,_,_,h2.below ha,λW u=>V W (((M.mono λk _ e=>by rw[e];exact hXb).trans u).mono λk _ e=>B3 (hX k e) Z)⟩
theorem Yt{P:Program}{l:List Oper}{Q:Exit->Act->World->Prop}{a:Act}{w:World}{S:World->Prop}{u:Nat}{J:Array Bool}{o o' g:Oper}(k B C:Nat)(K O T M N R L:Array Bool)(t:Option Value->Option Value->Option Value->World->Prop)(D:Value->Act->Act)(F G:Value)
 (a3:t none none none w)(A:∀x y z d,t x y z d->S d)
 (c:∀y z d,t none y z d->∀e:Act->World->Prop,Hid (∀v f,t (some v) y z f->e (((a.put o'.dst (y.getD F)).put g.dst (z.getD G)).put o.dst v) f)->if Region.wanted o (yielded l.toArray ((a.put o'.dst (y.getD F)).put g.dst (z.getD G)).tmps)=true then Oper.wp P o ((a.put o'.dst (y.getD F)).put g.dst (z.getD G)) d e Q else e (((a.put o'.dst (y.getD F)).put g.dst (z.getD G)).put o.dst undef) d)
 (W:∀b x z d,t x none z d->∀e:Act->World->Prop,Hid (∀v f,t x (some v) z f->e (b.put o'.dst v) f)->if Region.wanted o' (yielded l.toArray b.tmps)=true then Oper.wp P o' b d e Q else e (b.put o'.dst undef) d)
 (Y:∀b x y d,t x y none d->∀e:Act->World->Prop,Hid (∀v f,t x y (some v) f->e (b.put g.dst v) f)->if Region.wanted g (yielded l.toArray b.tmps)=true then Oper.wp P g b d e Q else e (b.put g.dst undef) d)
 (Z:∀X U,(X=J.setIfInBounds k true/\U=K)\/(X=O.setIfInBounds k true/\U=M)\/(X=T.setIfInBounds k true/\U=N)\/(X=R.setIfInBounds k true/\U=L)->∀y z v d n,t (some v) y z d->wpAnyH P .any l.toArray Q S n U (D v ((a.put o'.dst (y.getD F)).put g.dst (z.getD G))) d->wpAnyH P .any l.toArray Q S (n+3) X (((a.put o'.dst (y.getD F)).put g.dst (z.getD G)).put o.dst v) d)
 (h:∀v m p f,t (some v) (some m) (some p) f->wpAnyH P .any l.toArray Q S u L (D v ((a.put o'.dst m).put g.dst p)) f)
 (a0:l[k]?=some o:=by rfl)(a1:l[B]?=some o':=by rfl)(a2:l[C]?=some g:=by rfl)
 (ar:a=(a.put o'.dst F).put g.dst G:=by rfl)
 (af:∀v H I x,(D v ((a.put o'.dst H).put g.dst I)).put o'.dst x=D v ((a.put o'.dst x).put g.dst I):=by intro _ _ _ _;rfl)
 (ag:∀v H I x,(D v ((a.put o'.dst H).put g.dst I)).put g.dst x=D v ((a.put o'.dst H).put g.dst x):=by intro _ _ _ _;rfl)
 (ac:∀H I x,((a.put o'.dst H).put g.dst I).put o'.dst x=(a.put o'.dst x).put g.dst I:=by intro _ _ _;rfl)
 (ad:∀H I x,((a.put o'.dst H).put g.dst I).put g.dst x=(a.put o'.dst H).put g.dst x:=by intro _ _ _;rfl)
 (h2:J.setIfInBounds B true=O:=by rfl)(h3:J.setIfInBounds C true=T:=by rfl)(ap:O.setIfInBounds C true=R:=by rfl)(aq:T.setIfInBounds B true=R:=by rfl)
 (ak:K.setIfInBounds B true=M:=by rfl)(an:K.setIfInBounds C true=N:=by rfl)(al:M.setIfInBounds C true=L:=by rfl)(ao:N.setIfInBounds B true=L:=by rfl)
 (ax:Region.ready .any l.toArray J=[k,B,C]:=by kernel_rfl)(ay:Region.ready .any l.toArray K=[B,C]:=by kernel_rfl)(aK:Region.ready .any l.toArray O=[k,C]:=by kernel_rfl)(aM:Region.ready .any l.toArray T=[k,B]:=by kernel_rfl)
 (aC:Region.ready .any l.toArray M=[C]:=by kernel_rfl)(aF:Region.ready .any l.toArray N=[B]:=by kernel_rfl)(aL:Region.ready .any l.toArray R=[k]:=by kernel_rfl):
 wpAnyH P .any l.toArray Q S (u+6) J a w:=by
 have one:∀(i:Nat) (E:Oper) (n:Nat) (X:Array Bool) (b:Act) (d:World),l[i]?=some E->Region.ready .any l.toArray X=[i]->(∀e:Act->World->Prop,Hid (∀a w,S w->(S w->wpAnyH P .any l.toArray Q S n (X.setIfInBounds i true) a w)->e a w)->if Region.wanted E (yielded l.toArray b.tmps)=true then Oper.wp P E b d e Q else e (b.put E.dst undef) d)->wpAnyH P .any l.toArray Q S (n+1) X b d:=λi E n X b d a6 a7 a5=>
  HN a7 (by simp) (He (by simpa using a6) (λe q=>a5 e q) HF)
 have a8:∀(i j:Nat) (E V:Oper) (n:Nat) (X:Array Bool) (b:Act) (d:World),l[i]?=some E->l[j]?=some V->Region.ready .any l.toArray X=[i,j]->(∀e:Act->World->Prop,Hid (∀a w,S w->(S w->wpAnyH P .any l.toArray Q S n (X.setIfInBounds i true) a w)->e a w)->if Region.wanted E (yielded l.toArray b.tmps)=true then Oper.wp P E b d e Q else e (b.put E.dst undef) d)->(∀e:Act->World->Prop,Hid (∀a w,S w->(S w->wpAnyH P .any l.toArray Q S n (X.setIfInBounds j true) a w)->e a w)->if Region.wanted V (yielded l.toArray b.tmps)=true then Oper.wp P V b d e Q else e (b.put V.dst undef) d)->wpAnyH P .any l.toArray Q S (n+1) X b d:=λi j E V n X b d a6 av a7 a5 au=>
  HN a7 (by simp) (He (by simpa using a6) (λe q=>a5 e q) (He (by simpa using av) (λe q=>au e q) HF))
 have a9:∀v m d,t (some v) (some m) none d->wpAnyH P .any l.toArray Q S (u+1) M (D v ((a.put o'.dst m).put g.dst G)) d:=λv m d s=>by
  refine one C g _ _ _ _ a2 aC (λe q=>Y _ _ _ d s e λp f r=>?_);refine q _ _ (A _ _ _ _ r) λ_=>?_;rw[al,ag];exact h v m p f r
 have aa:∀v p d,t (some v) none (some p) d->wpAnyH P .any l.toArray Q S (u+1) N (D v ((a.put o'.dst F).put g.dst p)) d:=λv p d s=>by
  refine one B o' _ _ _ _ a1 aF (λe q=>W _ _ _ d s e λm f r=>?_);refine q _ _ (A _ _ _ _ r) λ_=>?_;rw[ao,af];exact h v m p f r
 have ab:∀m p d,t none (some m) (some p) d->wpAnyH P .any l.toArray Q S (u+4) R ((a.put o'.dst m).put g.dst p) d:=λm p d s=>by
  refine one k o (u+3) _ _ _ a0 aL (λe q=>c (some m) (some p) d s e λv f r=>?_);refine q _ _ (A _ _ _ _ r) λa4=>?_;exact Z _ _ (Or.inr (Or.inr (Or.inr ⟨rfl,rfl⟩))) (some m) (some p) v f u r (h v m p f r)
 have ah:∀v d,t (some v) none none d->wpAnyH P .any l.toArray Q S (u+2) K (D v ((a.put o'.dst F).put g.dst G)) d:=λv d s=>by
  refine a8 B C o' g (u+1) _ _ _ a1 a2 ay (λe q=>W _ _ _ d s e λm f r=>?_) (λe q=>Y _ _ _ d s e λp f r=>?_)
  ·refine q _ _ (A _ _ _ _ r) λ_=>?_;rw[ak,af];exact a9 v m f r
  ·refine q _ _ (A _ _ _ _ r) λ_=>?_;rw[an,ag];exact aa v p f r
 have ai:∀m d,t none (some m) none d->wpAnyH P .any l.toArray Q S (u+5) O ((a.put o'.dst m).put g.dst G) d:=λm d s=>by
  refine a8 k C o g (u+4) _ _ _ a0 a2 aK (λe q=>c (some m) none d s e λv f r=>?_) (λe q=>Y _ _ _ d s e λp f r=>?_)
  ·refine q _ _ (A _ _ _ _ r) λa4=>?_;exact Z _ _ (Or.inr (Or.inl ⟨rfl,rfl⟩)) (some m) none v f (u+1) r (a9 v m f r)
  ·refine q _ _ (A _ _ _ _ r) λ_=>?_;rw[ap,ad];exact ab m p f r
 have aj:∀p d,t none none (some p) d->wpAnyH P .any l.toArray Q S (u+5) T ((a.put o'.dst F).put g.dst p) d:=λp d s=>by
  refine a8 k B o o' (u+4) _ _ _ a0 a1 aM (λe q=>c none (some p) d s e λv f r=>?_) (λe q=>W _ _ _ d s e λm f r=>?_)
  ·refine q _ _ (A _ _ _ _ r) λa4=>?_;exact Z _ _ (Or.inr (Or.inr (Or.inl ⟨rfl,rfl⟩))) none (some p) v f (u+1) r (aa v p f r)
  ·refine q _ _ (A _ _ _ _ r) λ_=>?_;rw[aq,ac];exact ab m p f r
 rw[ar];refine HN ax (by simp) (He (by simpa using a0) (λe q=>c none none w a3 e λv f s=>?_) (He (by simpa using a1) (λe q=>W _ _ _ w a3 e λm f s=>?_) (He (by simpa using a2) (λe q=>Y _ _ _ w a3 e λp f s=>?_) HF)))
 ·refine q _ _ (A _ _ _ _ s) λa4=>?_;exact Z _ _ (Or.inl ⟨rfl,rfl⟩) none none v f (u+2) s (ah v f s)
 ·refine q _ _ (A _ _ _ _ s) λ_=>?_;rw[h2,ac];exact ai m f s
 ·refine q _ _ (A _ _ _ _ s) λ_=>?_;rw[h3,ad];exact aj p f s
end Go.Proofs.YtmajkjjjfodhlaaGreatDoor
