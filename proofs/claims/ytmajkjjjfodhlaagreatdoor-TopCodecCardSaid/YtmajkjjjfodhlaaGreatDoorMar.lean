/- Part Mar. No condition of its own. -/
import Derived.Test.YtmajkjjjfodhlaaGreatDoorMaq
namespace Go.Proofs.YtmajkjjjfodhlaaGreatDoor
open Go.RowKit Tryz
set_option linter.all false
set_option maxRecDepth 100000
set_option maxHeartbeats 8000000
theorem S2:type_of%@Nat.le_succ:=@Nat.le_succ
theorem S8:type_of%@ownsRow_setCell_below:=@ownsRow_setCell_below
theorem jK(v:Value)(l:List An)(w:World)(dk:Jf w v l):
 Calls prog 35 #[v] w λe w'=>WI l w e w':=by
 obtain⟨i0,g3,ga,gb,gd⟩:=BW NI;obtain⟨c1,r,bK,bL,bM⟩:=BW LG;obtain⟨n0,J,g5,g6,g7⟩:=BW jy;have co:=A0 dk;obtain⟨a0,c0,rfl,_⟩:=dk;by_cases fr:1000<l.length
 ·have b8:=A0 (WK (Or.inl fr));have d1:decide ((1000:Int)<(l.length:Int))=true:=by simp;omega
  go_enter func35,ntmps35;go_wp2_with fail;go_ret2;exact WJ b8 (A2 _ _)
 ·have d1:decide ((1000:Int)<(l.length:Int))=false:=by simp;omega
  have hl:l.length<=1000:=by omega
  go_enter func35,ntmps35;go_wp2_with (first
   |(at_make;refine HZ _ rfl _ _ 73 rfl w.heap.size 3 i0 (.int .i64 0) 1 underlying73 g3 ga gb .i64 .i64 _ _ 272 rfl rfl rfl rfl (by rw[gd];omega) (by simp[maxLen]) (A1 _) ?_
     intro e1 aV cV;have c9:=A0 ((A2 w.heap.size w).grown cV (A1 _) (λk hk=>by cases hk));have bT:w<e1.heap.size:=AM aV _ rfl;have ci:Hid (e1.ownsRow w.heap.size 3 1 (.slice (some ⟨w,0,none⟩) 272 272) 272 ((List.replicate 272 (0:Int)).map (Value.int .i64))):=by
      unfold Hid;rw[<-Qe];rw[J0] at aV;exact aV
     clear aV cV)
   |fail)
  go_loopw [23] (λc7 wr=>∃k:Nat,c7= .int .i64 k/\k<=l.length/\(∀t∈l.take k,AJ t=true)/\wr.ownsRow w.heap.size 3 1 (.slice (some ⟨w,0,none⟩) 272 272) 272 ((CW (l.take k)).map (Value.int .i64))/\Below w w wr) (λc7 _=>l.length-(intOf c7).toNat)
  case atStart=>exact⟨0,rfl,A7 _,by simp,by rw[P7,bm];exact ci,c9⟩
  case round=>
   obtain⟨k,rfl,hk,cF,d4,hb⟩:=hrel;obtain⟨aF,a8,a3⟩:=Hx3 cF d4 hb;have bX:=hb.size;clear cF d4 hb ci c9;by_cases z:k<l.length
   ·obtain⟨M,T,fj,ak,_,P,ah⟩:=WH co (by omega);injection ak with q1 q2 q3;subst q1 q3;obtain⟨D,E,N⟩:=ah k z;rw[<-a3.out.cell (p:=⟨M,T+k*3,none⟩) P] at D;rw[<-a3.out.cell (p:=⟨M,T+k*3+1,none⟩) P] at E;rw[<-a3.out.cell (p:=⟨M,T+k*3+2,none⟩) P] at N;have g2:(k:Int)<(l.length:Int):=by omega
    have bp:Hid (∀s:Nat,s<272->AC l[k]=s->CW (l.take (k+1))=(CW (l.take k)).set s ((((l.take k).filter λt=>AC t==(s:Int)).length:Int)+1)):=λs hs h=>jG z hs h;have f4:Hid (l[k]∈l):=BA z;have es:=A0 (B1 z);clear ah q2 g6;generalize l[k]=t at*;obtain⟨A,c,d⟩:=t;dsimp only at D E N;have a1:=WG A c d (wr.alloc (.cells #[A, c, d] 145));go_wp2_with fail;refine a1.mono ?_;rintro e g ⟨rfl,I⟩;obtain⟨b9,a4⟩:=Hx2 (Ag (a8.alloc (.cells #[A, c, d] 145)) I) (UJ a3 I);clear a1 I D E N;by_cases hm:AJ (A,c,d)=true
    ·obtain⟨al,c6,_,_⟩:=LT hm;obtain⟨s,hs⟩:=G0 al;have dd:=bp s (by omega) hs;have bc:=A0 dd;have b3:=Nw (l.take k) (s:=s) (by omega);have hn:((l.take k).filter λt=>AC t==(s:Int)).length<=k:=A8 (K9 _ _) (ID _ _);have eS:=A0 hm;rw[hs];have dc:(s:Int)<272:=by omega
     clear dd hm al c6 hs bp;generalize ((l.take k).filter λt=>AC t==(s:Int)).length=x at*;have f0:=b9.frozenAt s;have f1:g.cell? ⟨w,s,none⟩=some (.int .i64 x):=by rw[b9.out.cellAt s (by omega),Hp,b3];rfl
     have bV:=(b9.stored s (.int .i64 ((x:Int)+1))).1;rw[<-I3,<-bc.out] at bV;obtain⟨ec,ao⟩:=Hx2 bV (a4.setCell (p:=⟨w,s,none⟩) (A1 _) (.int .i64 ((x:Int)+1)));clear bV b3;go_wp2_with fail;exact⟨⟨k+1,by go_num,by omega,λt b2=>by
      rw[es.out,GA,B6] at b2;rcases b2 with b2|rfl
      ·exact aF t b2
      ·exact eS,ec,ao⟩,by simp[intOf];omega⟩
    ·have bO:AJ (A,c,d)=false:=by cases q:AJ (A,c,d) with
      |true=>exact absurd q hm
      |false=>rfl
     have b8:=A0 (WK (Or.inr ⟨_,f4,bO⟩));rw[TJ bO];clear hm bO bp;go_wp2_with fail;go_ret2;exact WJ b8 a4
   ·obtain rfl:k=l.length:=by omega
    rw[D4] at aF a8;have d3:Es l=true:=Rt.2 ⟨hl,aF⟩;have bl:=A0 d3;have d0:=jq (.slice (some ⟨w,0,none⟩) 272 272) (CW l) wr (Cr a8).1 (by rw[GD];omega);clear d3;go_wp2_with fail;refine d0.mono ?_;rintro e g ⟨gs,c2,L,rfl,cy,bu,I⟩;have aP:Ea (CW l) L:=cy.out.1 (jE hl);have em:=A0 aP;obtain⟨f1,f2,f3⟩:=Uc aP (λx b3=>(Nx l x b3).1) (by rw[GD];omega);obtain⟨t1,t2,e0⟩:=Qn aP bl;have W:L.length=272:=t1;rcases Da bu with⟨h0,_⟩|⟨_,bt,c3,gX,ak,_,fz,cU⟩
    ·rw[h0] at W;simp at W
    injection ak with q1 q2 q3;subst q1 q3;have eb:Hid (Ki g (.slice (some ⟨bt,c3,none⟩) 272 c2) L):=by unfold Hid;rw[<-W];exact bu
    obtain⟨eA,a7,f7,Hthere,c8,bc,a4⟩:=Hx7 cU f2 f3 e0 W (Aj (Cr a8).1 I) (Jm a3 I);have g4:w<g.heap.size:=B3 (AM a8 _ rfl) I.size;rw[W];clear d0 cy aP f1 f2 f3 t1 t2 e0 I bu W g7 cU q2;go_wp2_with (first
     |(refine jx rfl 148 rfl (List.replicate 272 (Value.slice none 0 0)) n0 J g5 ?_
       intro gl cK cP hc;have cc:Hid (FQ gl g.heap.size none L 0):=jz cK;have ao:=A0 cP;clear cK cP)
     |fail)
    go_loopw [10,11,42] (λA gg i wr=>∃(k:Nat) (bs:List Bool) (a:Option Addr) (cap:Nat),i= .int .i64 k/\k<=272/\gg= .int .i64 (CL L k:Nat)/\A= .slice a bs.length cap/\Hid (bs=FD L k)/\ES wr (g+1) (.slice a bs.length cap) bs/\FQ wr g.heap.size (Value.slice a bs.length cap).ownBlock L k/\Below g g wr/\g.heap.size+1<=wr.heap.size) (λ_ _ i _=>272-(intOf i).toNat)
    case atStart=>exact⟨0,[],none,0,rfl,by omega,rfl,rfl,rfl,WF _ _,cc,ao,by omega⟩
    case round=>
     obtain⟨m,g8⟩:∃m:World,m=wr:=⟨_,rfl⟩;subst g8;obtain⟨k,bs,a,cap,rfl,hk,rfl,rfl,aL,H,cw,O,bX⟩:=hrel;obtain⟨bb,b6,ap⟩:=Hx3 H cw O;have g0:bs.length<=3536:=by have:=TK L k;have:=LU L k;rw[aL.out];omega
     have h8:=LU L k;obtain⟨cj,cl⟩:=Hx2 (Ah H) (AM H);clear H cw O cc ao;by_cases z:k<272
     ·have bN:k<(CW l).length:=by rw[GD];exact z
      have aU:k<L.length:=by rw[c8.out];exact z
      have D:=jJ bc bN;rw[<-ap.out.cell (p:=⟨w,k,none⟩) g4] at D;have E:=eA k aU;have hrel:=f7 k bN aU;have hj:=(Nx l _ (BA bN)).1;have a9:Hid (L[k]?.getD 0=L[k]):=by unfold Hid;rw[Bl aU,D0]
      have h9:=(D7 a7).2.1 _ (BA aU);obtain⟨ar,ay⟩:=Hx2 (PZ L k) (P0 L k);have g2:(k:Int)<272:=by omega
      have f9:Hid (0<L[k]->Nk L (k:Int)=true):=λhp=>Tn.2 ⟨a7,by omega,by omega,by rw[BY,a9.out];omega⟩;generalize (CW l)[k]=x at*;generalize hy:L[k]=y at*;clear hy;by_cases hp:0<y
      ·have dT:0<x:=hrel.1.1 hp;have b1:(x==0)=false:=by simp;omega
       rw[a9.out,A4 hp] at ar ay;have hi:IntKind.i64.wrap (((CL L k:Nat):Int)+1)=((CL L k:Nat):Int)+1:=by rw[H2];omega
       have ai:EK (k:Int) 9=true:=by
        have:p2 9=512:=by decide
        simp only[EK,E0];exact⟨by omega,by omega,by omega,by show(k:Int)<p2 9;omega⟩
       have d5:EK y 4=true:=by
        have:p2 4=16:=by decide
        simp only[EK,E0];exact⟨by omega,by omega,by omega,by show y<p2 4;omega⟩
       have f5:=A0 d5;have B:=OJ (.slice a bs.length cap) bs (k:Int) 9 m (g+1) bb bX (by omega) ai;generalize CL L k=mk at*;clear ai d5 hrel;go_wp2_with fail;refine B.mono ?_;rintro e b4 ⟨bq,c4,n,rfl,ag,X,Q,cL⟩;obtain⟨au,a5,b7⟩:=Hx3 X (ap.grown Q (by omega) (λj r=>by have:=cj j r;omega)) (Rr (o':=(Value.slice bq n.length c4).ownBlock) b6 Q (Or.inr rfl) (λe=>by have:=cj _ e.symm;omega) cL);have b0:g.heap.size+1<=b4.heap.size:=by have:=Q.size;omega
       have ck:=A0 (Ah X);have bx:n.length<=3600:=by rw[ag.out,A9,Ci];show _+9<=_;omega
       rw[<-a5.out.cell (p:=⟨bt,c3+k,none⟩) fz] at E;have B:=OJ (.slice bq n.length c4) n y 4 b4 (g+1) au b0 (by omega) f5;clear X Q cL D;go_wp2_with fail;refine B.mono ?_;rintro e b5 ⟨aa,c5,cq,rfl,fu,bw,R,cM⟩;obtain⟨av,ca,cg⟩:=Hx3 bw (a5.grown R (by omega) (λj r=>by have:=ck j r;omega)) (Rr (o':=(Value.slice aa cq.length c5).ownBlock) b7 R (Or.inr rfl) (λe=>by have:=ck _ e.symm;omega) cM);have he:g.heap.size+1<=b5.heap.size:=by have:=R.size;omega
       have ek:=A0 (AM bw);have ds:=jt (.slice (some ⟨bt,c3,none⟩) 272 c2) L (k:Int) b5 (Aj eb ca) (by rw[c8.out];omega) (f9 hp);clear bw R cM E B;go_wp2_with fail;refine ds.mono ?_;rintro e e2 ⟨cp,cs,cr,rfl,Y,cz,Z⟩;have g1:=jB (Rs cg Z) z;obtain⟨⟨hq,hg⟩,hh⟩:=g1;obtain⟨e7,V,U⟩:=Hx3 (jC cg z (by rw[a9.out];exact hp) Z (A1 _) cz (by rw[Y.out,BY]) ek) (S8 (Ag av Z) (a:=⟨g,k,none⟩) (Nat.lt_succ_self _) (.slice cp cr.length cs)) ((ca.trans (Z.mono (by omega))).setCell (p:=⟨g,k,none⟩) (A1 _) (.slice cp cr.length cs));have a2:g.heap.size+1<=e2.heap.size:=by have:=Z.size;omega
       clear ds cz Z;go_wp2_with fail;exact⟨⟨k+1,cq,aa,c5,by go_num,by omega,by rw[ar.out];go_num,rfl,by unfold Hid;rw[fu.out,ag.out,aL.out,ay.out];simp,V,e7,U,by simpa[World.setCell] using a2⟩,by simp[intOf];omega⟩
      ·have dT:x=0:=by
        have:¬0<x:=λq=>hp (hrel.1.2 q);omega
       subst dT;rw[a9.out,A3 hp] at ar ay;have b7:=A0 (jA b6 (by rw[a9.out];exact hp));clear hrel;go_wp2_with fail;exact⟨⟨k+1,bs,a,cap,by go_num,by omega,by rw[ar.out];rfl,rfl,by unfold Hid;rw[ay.out,E5];exact aL,bb,b7,ap,bX⟩,by simp[intOf];omega⟩
     ·obtain rfl:k=272:=by omega
      have ai:EK ((CL L 272:Nat):Int) 9=true:=by
       have:p2 9=512:=by decide
       simp only[EK,E0];exact⟨by omega,by omega,by omega,by show((CL L 272:Nat):Int)<p2 9;omega⟩
      have B:=OJ (.slice none 0 0) [] ((CL L 272:Nat):Int) 9 m m.heap.size (WF _ _) (A1 _) (by simp) ai;have cb:=A0 (a4.trans (ap.mono a4.size));have e9:Hid (GH L=Ar ((CL L 272:Nat):Int) 9++FD L 272):=rfl;generalize CL L 272=mk at*;clear ai;go_wp2_with fail;refine B.mono ?_;rintro e b4 ⟨bq,c4,n,rfl,ag,X,Q,_⟩;have aT:Below m m b4:=(A2 _ _).grown Q (A1 _) (λk hk=>by cases hk);obtain⟨f8,au,e6⟩:=Hx3 (Aj (Cr bb).1 aT) X aT;have bx:n.length=9:=by rw[ag.out,B7,Ci];rfl
      have gm:=A0 bx;have h7:n.length<=9:=by omega
      have b0:=aT.size;clear B X Q aT bx
      go_wp2_with (first|(at_builtin;refine MR (f:=Value.bool) rfl _ _ 25 rfl m.heap.size 4 c1 (.bool false) 1 underlying25 r bK bL bM rfl _ _ _ rfl au _ rfl f8 (λ_=>rfl) (by simp[maxLen];omega) (by omega) b0 ?_
                          intro hr b5 bR R _;obtain⟨aa,c5,rfl,_⟩:=Aw bR;have av:Hid (ES b5 m.heap.size (.slice aa (n++bs).length c5) (n++bs)):=by
                           have G:(n++bs).length=n.length+bs.length:=A9;unfold Hid ES;rw[G,D1];exact bR
                          have a5:=A0 (e6.grown R b0 (λj r=>Ah au j r));clear bR R)|fail)
      have G:(n++bs).length=n.length+bs.length:=A9;have e3:=A0 G;have e8:Hid (n++bs=GH L):=by unfold Hid;rw[e9.out,ag.out,aL.out,B7];rfl
      clear G;go_loopw [14,75] (λo i C=>∃(k:Nat) (b:List Bool) (ac:Option Addr) (af:Nat),i= .int .i64 k/\k<=l.length/\o= .slice ac b.length af/\Hid (b=GH L++(l.take k).flatMap (Dw L))/\ES C m.heap.size (.slice ac b.length af) b/\Below m m C) (λ_ i _=>l.length-(intOf i).toNat)
      case atStart=>exact⟨0,n++bs,aa,c5,rfl,A7 _,by rw[e3.out],by unfold Hid;rw[e8.out];simp,av,a5⟩
      case round=>
       obtain⟨C,g9⟩:∃C:World,C=wr:=⟨_,rfl⟩;subst g9;obtain⟨k,b,ac,af,rfl,hk,rfl,aK,H,O⟩:=hrel;obtain⟨cm,e5,aq,cl⟩:=Hx4 H O (cb.trans (O.mono cb.size)) (AM H);have hf:=O.size;have g0:b.length<=27000:=by
        have h1:=WL a7 (l.take k);have h2:=Ug L;have h3:=LU L 272;have h4:(l.take k).length<=l.length:=by rw[B5];omega
        rw[aK.out,A9];omega
       clear H O av a5;by_cases z:k<l.length
       ·obtain⟨M,T,fj,ak,_,P,ah⟩:=WH co (by omega);injection ak with q1 q2 q3;subst q1 q3;obtain⟨D,E,N⟩:=ah k z;rw[<-aq.out.cell (p:=⟨M,T+k*3,none⟩) P] at D;rw[<-aq.out.cell (p:=⟨M,T+k*3+1,none⟩) P] at E;rw[<-aq.out.cell (p:=⟨M,T+k*3+2,none⟩) P] at N;have g2:(k:Int)<(l.length:Int):=by omega
        have bP:=aF _ (BA z);obtain⟨aj,bT⟩:=Hthere _ (BA z);have ch:Hid ((l.take (k+1)).flatMap (Dw L)=(l.take k).flatMap (Dw L)++Dw L l[k]):=by
         unfold Hid;rw[B1 z,HB,G8,T6,E5]
        clear ah q2;generalize l[k]=t at*;obtain⟨A,c,d⟩:=t;dsimp only at D E N;obtain⟨al,c6,gf,_⟩:=LT bP;have da:=JL bP;obtain⟨s,hs⟩:=G0 al;have dc:s<272:=by omega
        have ha:(s:Int)<272:=by omega
        have aC:Hid (Dw L (A,c,d)=BI L s++(if 0<d then Ar c 8 else[])):=by unfold Hid Dw;rw[hs,BY]
        have cx:0<L[s]?.getD 0:=by
         rw[hs,BY] at aj;have q:L[s]'aj≠0:=by simpa[hs] using bT
         have:=(D7 a7).2.1 _ (BA aj);rw[Bl aj,D0];omega
        have ea:=A0 cx;have h6:(BI L s).length<=15:=by
         rw[LJ];by_cases h:s<L.length
         ·rw[Bl h,D0];have:=(D7 a7).2.1 _ (BA h);omega
         ·rw[E9 (by omega)];simp
        have Hparts:=A0 da;have a1:=WG A c d (C.alloc (.cells #[A, c, d] 145));rw[hs] at a1;clear hs aj bT cx al c6 gf da bP;go_wp2_with fail;refine a1.mono ?_;rintro e e2 ⟨rfl,Y⟩;obtain⟨f0,f1,f2,aX⟩:=jH Y;obtain⟨V,U⟩:=Hx2 (Ag (cm.alloc (.cells #[A, c, d] 145)) Y) (jI e5 Y);have a2:=U.size;obtain⟨ht,dn,cT⟩:=jD (Rs b6 U) dc ea;have Hbits:=A0 cT;obtain⟨gx,h5,rfl,_⟩:=cT;have d2:some C.heap.size≠(Value.slice ac b.length af).ownBlock:=λe=>by have:=cl _ e.symm;omega
        have aM:=A0 d2;clear a1 Y D E N d2;generalize BI L s=u at*;have ct:(b++u).length=b.length+u.length:=A9;have an:=A0 ct;clear ct;by_cases J:0<d
        ·have fk:decide (0<d)=true:=by simpa using J
         rw[A4 J] at aC;have d6:EK c 8=true:=by
          have ho:p2 8=256:=by decide
          have:=Hparts.out;simp only[EK,E0];exact⟨by omega,by omega,by omega,by show c<p2 8;omega⟩
         have f6:=A0 d6;clear d6 J
         go_wp2_with (first|(at_builtin;refine MR (f:=Value.bool) rfl _ _ 25 rfl m.heap.size 4 c1 (.bool false) 1 underlying25 r bK bL bM rfl _ _ _ rfl V _ rfl Hbits (λ_=>rfl) (by simp[maxLen];omega) (by omega) a2 ?_
                             intro gk K S F _;obtain⟨ab,ad,rfl,_⟩:=Aw S;have ax:Hid (ES K m.heap.size (.slice ab (b++u).length ad) (b++u)):=by
                              have G:(b++u).length=b.length+u.length:=A9;unfold Hid ES;rw[G,D1];exact S
                             have a6:=A0 (U.grown F a2 (λj r=>Ah V j r));have cu:K.cell? ⟨C,2,none⟩=some (.int .i64 d):=by rw[OL F aX aM.out];exact f2
                             have cv:K.cell? ⟨C,1,none⟩=some (.int .i64 c):=by rw[OL F aX aM.out];exact f1
                             clear S F f0 f1 f2 dn)|fail)
         have B:=OJ (.slice ab (b++u).length ad) (b++u) c 8 K m.heap.size ax a6.size (by rw[an.out];omega) f6;rw[an.out] at B;generalize cS:b++u=gT at*;have ey:=A0 cS;clear cS;refine B.mono ?_;rintro e hu ⟨fa,fi,fb,rfl,fv,cC,cX,_⟩;obtain⟨eg,e4⟩:=Hx2 cC (a6.grown cX a6.size (λj r=>Ah ax j (by rw[an.out];exact r)));clear B cC cX cu cv;go_wp2_with fail;exact⟨⟨k+1,fb,fa,fi,by go_num,by omega,rfl,by unfold Hid;rw[fv.out,<-ey.out,aK.out,ch.out,aC.out];simp,eg,e4⟩,by simp[intOf];omega⟩
        ·have fk:decide (0<d)=false:=by simpa using J
         rw[A3 J,E5] at aC;clear J
         go_wp2_with (first|(at_builtin;refine MR (f:=Value.bool) rfl _ _ 25 rfl m.heap.size 4 c1 (.bool false) 1 underlying25 r bK bL bM rfl _ _ _ rfl V _ rfl Hbits (λ_=>rfl) (by simp[maxLen];omega) (by omega) a2 ?_
                             intro gk K S F _;obtain⟨ab,ad,rfl,_⟩:=Aw S;have ax:Hid (ES K m.heap.size (.slice ab (b++u).length ad) (b++u)):=by
                              have G:(b++u).length=b.length+u.length:=A9;unfold Hid ES;rw[G,D1];exact S
                             have a6:=A0 (U.grown F a2 (λj r=>Ah V j r));have cu:K.cell? ⟨C,2,none⟩=some (.int .i64 d):=by rw[OL F aX aM.out];exact f2
                             have cv:K.cell? ⟨C,1,none⟩=some (.int .i64 c):=by rw[OL F aX aM.out];exact f1
                             clear S F f0 f1 f2 dn)|fail)
         exact⟨⟨k+1,b++u,ab,ad,by go_num,by omega,by rw[an.out],by unfold Hid;rw[aK.out,ch.out,aC.out];simp,ax,a6⟩,by simp[intOf];omega⟩
       ·obtain rfl:k=l.length:=by omega
        have et:Hid (OK l b):=⟨λ_=>⟨L,em,by rw[aK.out,D4,Qm]⟩,λh=>by rw[bl.out] at h;cases h⟩;go_wp2_with fail;go_ret2;exact⟨ac,af,b,by rw[bl.out];rfl,et,(Cr cm).1,aq⟩
theorem WM(a b c:Addr)(w:World):
 CallsD prog 350 #[.pointer (some a), .pointer (some b), .pointer (some c)] .returning w λe h w'=>e= .returned (.tuple #[])/\h= .returning/\w'=w:=by
 refine callsD_of_wpS func350 rfl λf cs g=>?_;apply wpS_seq;apply wpS_region;simp[wpOpsS,go_sem,recoverD,g,ntmps350,Exit.thenS];have d:(#[Value.pointer (some a),Value.pointer (some b),Value.pointer (some c)]++((Array.replicate 14 undef).setIfInBounds 3 Value.nilIface).setIfInBounds 0 Value.nilIface)=#[Value.pointer (some a),Value.pointer (some b),Value.pointer (some c),Value.nilIface,undef,undef,Value.nilIface,undef,undef,undef,undef,undef,undef,undef,undef,undef,undef]:=rfl;rw[d];clear d;refine wpS_of_wp ?_;go_wp2_with fail;cases f
 simp_all[bodyPostS,results,results350]
theorem OM{w:World}{p:Addr}{x:Value}(h:w.cell? p=some x):p.block<w.heap.size:=by
 rcases BZ p.block w.heap.size with h1|h1
 ·exact h1
 ·simp[World.cell?,B8 h1] at h
theorem jL(w:World):(Instr.typeAssert (.iface 420 (.agg #[])) 20 420 true).run prog w= .ok (.tuple #[.agg #[], .bool true]) w:=by simp[Instr.typeAssert,go_sem]
theorem Kj(a b c:Addr)(o g h:Value)(w:World)(h0:w.cell? a=some o)(h1:w.cell? b=some g)(h2:w.cell? c=some h)(f0:w.frozen? a=false)(f1:w.frozen? b=false)(f2:w.frozen? c=false)(k:b≠a)(l:c≠a)(m:c≠b):
 CallsD prog 350 #[.pointer (some a), .pointer (some b), .pointer (some c)] (.panicking [{v:=JM,recovered:=false}]) w λe t w'=>
  e= .returned (.tuple #[])/\t= .panicking [{v:=JM,recovered:=true}]/\w'=(((w.alloc (.cells #[] 420)).setCell a (.slice none 0 0)).setCell b (.int .i64 0)).setCell c (.bool false):=by
 refine callsD_of_wpS func350 rfl λp cs s=>?_;apply wpS_seq;apply wpS_region;simp[wpOpsS,go_sem,recoverD,s,ntmps350,Exit.thenS];have n:(#[Value.pointer (some a),Value.pointer (some b),Value.pointer (some c)]++((Array.replicate 14 undef).setIfInBounds 3 JM).setIfInBounds 0 JM)=#[Value.pointer (some a),Value.pointer (some b),Value.pointer (some c), .iface 420 (.agg #[]),undef,undef, .iface 420 (.agg #[]),undef,undef,undef,undef,undef,undef,undef,undef,undef,undef]:=rfl;rw[n];clear n;refine wpS_of_wp ?_;have r:=jL w;have b0:a.block<w.heap.size:=OM h0;have b1:b.block<w.heap.size:=OM h1;have b2:c.block<w.heap.size:=OM h2;obtain⟨d,f⟩:∃d,w.alloc (.cells #[] 420)=d:=⟨_,rfl⟩;have q:d.cell? a=some o:=by rw[<-f,HD _ _ _ b0];exact h0
 have i:d.cell? b=some g:=by rw[<-f,HD _ _ _ b1];exact h1
 have j:d.cell? c=some h:=by rw[<-f,HD _ _ _ b2];exact h2
 have y:d.frozen? a=false:=by rw[<-f,frozen?_alloc_cells];exact f0
 have z:d.frozen? b=false:=by rw[<-f,frozen?_alloc_cells];exact f1
 have A:d.frozen? c=false:=by rw[<-f,frozen?_alloc_cells];exact f2
 have u:(d.setCell a (.slice none 0 0)).cell? b=some g:=by rw[J1 _ _ _ _ k.symm];exact i
 have x:((d.setCell a (.slice none 0 0)).setCell b (.int .i64 0)).cell? c=some h:=by rw[J1 _ _ _ _ m.symm,J1 _ _ _ _ l.symm];exact j
 go_wp2_with fail;subst f;clear h0 h1 h2 f0 f1 f2 q i j y z A u x b0 b1 b2 r k l m;cases p
 simp[bodyPostS,results,results350,go_sem]
def WN(bs:List Bool)(many:Int)(w:World)(e:Ending)(w':World):Prop:=
 ∃(a:Option Addr) (cap:Nat) (l:List An) (q:Int) (ok:Bool),e= .returned (.tuple #[.slice a l.length cap, q, .bool ok])/\Jf w' (.slice a l.length cap) l/\
  ((CB bs many=some (l,q)/\ok=true)\/(CB bs many=none/\l=[]/\q=0/\ok=false))/\Below w w w'
theorem IA{bs:List Bool}{many:Int}{w w':World}(h:CB bs many=none)(hb:Below w w w'):WN bs many w (.returned (.tuple #[.slice none 0 0, .int .i64 0, .bool false])) w':=
 ⟨none,0,[],0,false,rfl,Cq λ_=>rfl,Or.inr ⟨h,rfl,rfl,rfl⟩,hb⟩
theorem Ru(w:World)(o:Obj):(w.alloc o).heap.size=w.heap.size+1:=by simp
theorem ON{w:World}{n o:Nat}(h:w<=n):w.frozen? ⟨n,o,none⟩=false:=by
 simp[World.frozen?,B8 h]
structure CG(w:World)(n:Nat)(x0 x1 x2:Value):Prop where
 c0:w.cell? ⟨n,0,none⟩=some x0
 c1:w.cell? ⟨n+1,0,none⟩=some x1
 c2:w.cell? ⟨n+2,0,none⟩=some x2
 f0:w.frozen? ⟨n,0,none⟩=false
 f1:w.frozen? ⟨n+1,0,none⟩=false
 f2:w.frozen? ⟨n+2,0,none⟩=false
theorem CG.save{w w':World}{n m:Nat}{b c d:Value}{S:Nat->Prop}(h:CG w n b c d)(hs:Au S m w w')(hm:n+2<m)(a:∀k,k<=n+2->¬S k):CG w' n b c d:=
 ⟨by rw[hs.cell (p:=⟨n,0,none⟩) (by show n<m;omega) (a n (by omega))];exact h.c0,by rw[hs.cell (p:=⟨n+1,0,none⟩) (by show n+1<m;omega) (a (n+1) (by omega))];exact h.c1,by rw[hs.cell (p:=⟨n+2,0,none⟩) hm (a (n+2) (by omega))];exact h.c2,
  by rw[hs.frozen (p:=⟨n,0,none⟩) (by show n<m;omega) (a n (by omega))];exact h.f0,by rw[hs.frozen (p:=⟨n+1,0,none⟩) (by show n+1<m;omega) (a (n+1) (by omega))];exact h.f1,by rw[hs.frozen (p:=⟨n+2,0,none⟩) hm (a (n+2) (by omega))];exact h.f2⟩
theorem CG.put0{w:World}{n:Nat}{c a b:Value}(h:CG w n c a b)(u:Value):CG (w.setCell ⟨n,0,none⟩ u) n u a b:=
 ⟨Fw h.c0,by rw[GE _ (by omega)];exact h.c1,by rw[GE _ (by omega)];exact h.c2,by rw[HX];exact h.f0,by rw[HX];exact h.f1,by rw[HX];exact h.f2⟩
theorem CG.put1{w:World}{n:Nat}{a c b:Value}(h:CG w n a c b)(u:Value):CG (w.setCell ⟨n+1,0,none⟩ u) n a u b:=
 ⟨by rw[GE _ (by omega)];exact h.c0,Fw h.c1,by rw[GE _ (by omega)];exact h.c2,by rw[HX];exact h.f0,by rw[HX];exact h.f1,by rw[HX];exact h.f2⟩
theorem CG.put2{w:World}{n:Nat}{a b c:Value}(h:CG w n a b c)(u:Value):CG (w.setCell ⟨n+2,0,none⟩ u) n a b u:=
 ⟨by rw[GE _ (by omega)];exact h.c0,by rw[GE _ (by omega)];exact h.c1,Fw h.c2,by rw[HX];exact h.f0,by rw[HX];exact h.f1,by rw[HX];exact h.f2⟩
theorem CG.lt{w:World}{n:Nat}{a b c:Value}(h:CG w n a b c):n+2<w.heap.size:=OM h.c2
theorem jM(w:World)(b c e:Value)(d t1 t2:TypeId):∃a,((w.alloc (.cells #[b] d)).alloc (.cells #[c] t1)).alloc (.cells #[e] t2)=a/\CG a w.heap.size b c e/\a=w.heap.size+3/\Below w w a:=by
 refine⟨_,rfl,⟨?_,?_,?_,?_,?_,?_⟩,by simp,(((A2 _ _).alloc (A1 _) _).alloc (by simp) _).alloc (by simp;omega) _⟩
 ·rw[HD _ _ _ (by simp;omega),HD _ _ _ (by simp),G7];rfl
 ·rw[HD _ _ _ (by simp)];have h:=G7 (w.alloc (.cells #[b] d)) #[c] t1 0;rw[Ru] at h;rw[h];rfl
 ·have h:=G7 ((w.alloc (.cells #[b] d)).alloc (.cells #[c] t1)) #[e] t2 0;rw[Ru,Ru] at h;rw[h];rfl
 ·simp only[frozen?_alloc_cells];exact ON (by omega)
 ·simp only[frozen?_alloc_cells];exact ON (by omega)
 ·simp only[frozen?_alloc_cells];exact ON (by omega)
theorem Kk{w w':World}{n:Nat}{c d e:Value}{t:TypeId}(h:CG w n c d e)(b:w'=(((w.alloc (.cells #[] t)).setCell ⟨n,0,none⟩ (.slice none 0 0)).setCell ⟨n+1,0,none⟩ (.int .i64 0)).setCell ⟨n+2,0,none⟩ (.bool false)):
 CG w' n (.slice none 0 0) (.int .i64 0) (.bool false)/\Below n w w':=by
 have a:=h.lt;have hb:Below w w (w.alloc (.cells #[] t)):=(A2 _ _).alloc (A1 _) _;have h1:=h.save (Au.of (S:=λ_=>False) hb) a (λ_ _ q=>q);subst b;exact⟨((h1.put0 _).put1 _).put2 _,((((hb.mono (B':=n) (by omega)).setCell (p:=⟨n,0,none⟩) (A1 _) _).setCell (p:=⟨n+1,0,none⟩) (S2 _) _).setCell (p:=⟨n+2,0,none⟩) (by show n<=n+2;omega) _)⟩
theorem WO{S:Nat->Prop}{m n d:Nat}{e a b:World}{f g h v:Value}{p:Int}{c:Obj}{row:Option Nat}(i:Au S m e a)(hm:m<=a.heap.size)(o:CG a n f g h)(l:n+2<m)(hr:BU a d v p)(r:d<m)(j:(a.alloc c).grownBy b row)(s:∀k,row=some k->m<=k):
 CG b n f g h/\BU b d v p/\Au S m e b:=by
 have hb:=((A2 m a).alloc hm c).grown j (by simp;omega) s;exact⟨o.save (Au.of (S:=λ_=>False) hb) l (λ_ _ q=>q),hr.save (Au.of (S:=λ_=>False) hb) r (λq=>q),i.trans (Au.of hb)⟩
end Go.Proofs.YtmajkjjjfodhlaaGreatDoor
