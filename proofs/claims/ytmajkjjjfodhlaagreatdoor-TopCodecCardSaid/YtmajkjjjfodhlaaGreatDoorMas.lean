/- Part Mas. No condition of its own. -/
import Derived.Test.YtmajkjjjfodhlaaGreatDoorMar
namespace Go.Proofs.YtmajkjjjfodhlaaGreatDoor
open Go.RowKit Tryz
set_option linter.all false
set_option maxRecDepth 100000
set_option maxHeartbeats 8000000
theorem HY:type_of%@leaves_cons:=@leaves_cons
theorem H3:type_of%@List.count_pos_iff:=@List.count_pos_iff
theorem jN(a:World)(n:Nat)(d e f v:Value)(t:TypeId)(h:CG a n d e f)(c:a=n+3):∃b,a.alloc (.cells #[v, .int .i64 0] t)=b/\BU b (n+3) v 0/\CG b n d e f/\b=n+4/\Below a a b:=by
 have hb:Below a a (a.alloc (.cells #[v, .int .i64 0] t)):=(A2 _ _).alloc (A1 _) _;refine⟨_,rfl,⟨by simp;omega,?_,?_,?_⟩,h.save (Au.of (S:=λ_=>False) hb) (by omega) (λ_ _ q=>q),by simp;omega,hb⟩
 ·rw[<-c];simp
 ·rw[<-c];simp
 ·rw[frozen?_alloc_cells];exact ON (by omega)
theorem WP{w a:World}{g:Nat}{c d e:Value}(hb:Below w w a)(b:g<w.heap.size)(f:w.cell? ⟨g,0,none⟩=some c)(h:w.cell? ⟨g,1,none⟩=some d)(i:w.cell? ⟨g,2,none⟩=some e):
 a.cell? ⟨g,0,none⟩=some c/\a.cell? ⟨g,1,none⟩=some d/\a.cell? ⟨g,2,none⟩=some e:=
 ⟨by rw[hb.cell (p:=⟨g,0,none⟩) b];exact f,by rw[hb.cell (p:=⟨g,1,none⟩) b];exact h,by rw[hb.cell (p:=⟨g,2,none⟩) b];exact i⟩
theorem jO(v:Value)(bs:List Bool)(many:Int)(w:World)(cl:Gy w v bs)(hl:bs.length<=140737488355328):
 Calls prog 305 #[v, many] w λe w'=>WN bs many w e w':=by
 have d5:∀(bR:Fn) (first cap:Array Value) (w:World),(Instr.makeFunc bR first cap).run prog w= .ok (.func bR first cap) w:=λ_ _ _ _=>rfl;obtain⟨bN,d4,D,cM,c7⟩:=jM w (.slice none 0 0) (.int .i64 0) (.bool false) 95 3 4;obtain⟨x,aP,bM⟩:=Hx3 D c7 cl;obtain⟨ap,aq,rfl,_⟩:=cl;clear c7;by_cases hm:many<0\/1000<many
 ·have a1:Hid (CB bs many=none):=by unfold Hid CB;rw[A4 hm]
  have c0:=D.c0;have f0:=D.f0;obtain⟨R,b9⟩:∃R,bN.setCell ⟨w,0,none⟩ (.slice none 0 0)=R:=⟨_,rfl⟩;have aC:CG R w.heap.size (.slice none 0 0) (.int .i64 0) (.bool false):=by rw[<-b9];exact D.put0 _
  have ar:Hid (Below w w R):=by rw[<-b9];exact aP.setCell (A1 _) _
  obtain⟨a9,c4⟩:∃a9,R.setCell ⟨w+1,0,none⟩ (.int .i64 0)=a9:=⟨_,rfl⟩;have W:CG a9 w.heap.size (.slice none 0 0) (.int .i64 0) (.bool false):=by rw[<-c4];exact aC.put1 _
  have ab:Hid (Below w w a9):=by rw[<-c4];exact ar.setCell (by show w<=w.heap.size+1;omega) _
  obtain⟨z,N⟩:∃z,a9.setCell ⟨w+2,0,none⟩ (.bool false)=z:=⟨_,rfl⟩;have X:CG z w.heap.size (.slice none 0 0) (.int .i64 0) (.bool false):=by rw[<-N];exact W.put2 _
  have c8:Hid (Below w w z):=by rw[<-N];exact ab.setCell (by show w<=w.heap.size+2;omega) _
  have c1:=aC.c1;have f1:=aC.f1;have c2:=W.c2;have f2:=W.f2;have o:=X.c0;have d1:=X.c1;have d2:=X.c2;clear D aC W X;have i:=WM ⟨w,0,none⟩ ⟨w+1,0,none⟩ ⟨w+2,0,none⟩ z;by_cases h1:many<0
  ·clear hm
   go_enter_defers func305,ntmps305
   go_wp2_with fail;refine HY (f:=350) (args:=#[.pointer (some ⟨w,0,none⟩), .pointer (some ⟨w+1,0,none⟩), .pointer (some ⟨w+2,0,none⟩)]) (by simp) (by simp[go_sem]) ?_;refine i.mono ?_;rintro e K M ⟨rfl,rfl,rfl⟩;simp[Leaves,settle,results,results305,go_sem,o,d1,d2];exact IA a1 c8
  ·have h2:1000<many:=by omega
   clear hm
   go_enter_defers func305,ntmps305
   go_wp2_with fail;refine HY (f:=350) (args:=#[.pointer (some ⟨w,0,none⟩), .pointer (some ⟨w+1,0,none⟩), .pointer (some ⟨w+2,0,none⟩)]) (by simp) (by simp[go_sem]) ?_;refine i.mono ?_;rintro e K M ⟨rfl,rfl,rfl⟩;simp[Leaves,settle,results,results305,go_sem,o,d1,d2];exact IA a1 c8
 ·have cT:¬many<0:=λq=>hm (Or.inl q);have m1:¬1000<many:=λq=>hm (Or.inr q);have bX:CB bs many=(match Df bs with
   |some (L,p)=>BL L bs many (many.toNat+1) 0 p []
   |none=>none):=by unfold CB;rw[A3 hm];rfl
  have a1:=A0 bX;have b1:decide (many<0)=false:=by simpa using cT
  have b2:decide (1000<many)=false:=by simpa using m1
  clear hm bX;obtain⟨R,b9,a3,ch,cP,ar⟩:=jN bN w.heap.size _ _ _ (.slice ap bs.length aq) 424 D cM;obtain⟨aT,HRes4,ao⟩:=Hx3 (aP.trans (ar.mono aP.size)) ch a3;have bq:=de w (w+3) (.slice ap bs.length aq) bs R a3 bM aT (by omega) hl;clear D ch a3 ar
  go_enter_defers func305,ntmps305
  go_wp2_with fail;refine bq.mono ?_;rintro e u ⟨a4,⟨L,q,a2,rfl,ay,bT,W⟩|⟨a2,rfl⟩⟩;rotate_left
  ·have r:Hid (CB bs many=none):=by unfold Hid;rw[a1.out,a2]
   have l:=HRes4.save a4 (by omega) (λk hk e=>by omega);have ab:=A0 (aT.trans (a4.below (m':=w.heap.size) (λk hk e=>by omega) (by omega)));have i:=Kj ⟨w,0,none⟩ ⟨w+1,0,none⟩ ⟨w+2,0,none⟩ _ _ _ u l.c0 l.c1 l.c2 l.f0 l.f1 l.f2 (by simp) (by simp) (by simp);clear a4 a2 bq;go_wp2_with fail;refine HY (f:=350) (args:=#[.pointer (some ⟨w,0,none⟩), .pointer (some ⟨w+1,0,none⟩), .pointer (some ⟨w+2,0,none⟩)]) (by simp) (by simp[go_sem]) ?_;refine i.mono ?_;rintro e K M ⟨rfl,rfl,n⟩;obtain⟨g,s⟩:=Kk l n;have o:=g.c0;have d1:=g.c1;have d2:=g.c2;clear n i g l;simp[Leaves,settle,results,results305,go_sem,o,d1,d2];exact IA r (ab.trans s)
  obtain⟨cc,cF,cK⟩:=T9 a2;obtain⟨_,bV,_⟩:=D7 cc;have cs:=A0 bV;have P:Hid (CB bs many=BL L bs many (many.toNat+1) 0 q []):=by unfold Hid;rw[a1.out,a2]
  rw[cP] at ay;have l:=HRes4.save a4 (by omega) (λk hk e=>by omega);obtain⟨HRes5,cq,cu,cv,HL272⟩:=Hx5 l (aT.trans (a4.below (m':=w.heap.size) (λk hk e=>by omega) (by omega))) ay W bT;have dd:w.heap.size+4<u.heap.size:=by have h1:=AM ay _ rfl;exact h1
  obtain⟨i0,ca,cm,co,cp⟩:=BW UB;clear a4 a2 bq ay W bT l bV cc a1 HRes4 ao;go_wp2_with fail;go_loopw [9] (λbw wr=>∃(t p:Int) (out:List An) (a:Option Addr) (cap m:Nat),bw= .int .i64 t/\0<=t/\t<=many/\many-t<m/\0<=p/\p<=bs.length/\(out.length:Int)<=t/\BL L bs many (many.toNat+1) 0 q []=BL L bs many m t p out/\BU wr (w+3) (.slice ap bs.length aq) p/\CG wr w.heap.size (.slice a out.length cap) (.int .i64 0) (.bool false)/\wr.ownsRow u.heap.size 145 3 (.slice a out.length cap) out.length (Fg out)/\Au (λk=>k=w.heap.size\/k=w.heap.size+3) u.heap.size u wr) (λbw _=>(many-intOf bw).toNat)
  case atStart=>exact⟨0,q,[],none,0,many.toNat+1,rfl,by decide,by omega,by omega,cF,cK,by decide,rfl,cv,HRes5,C2 _ _ _ _,Au.refl _ _ _⟩
  case round=>
   obtain⟨t,p,out,a,cap,m,rfl,dk,dn,d6,cC,dc,da,J,a3,D,cg,aK⟩:=hrel;obtain⟨G,ao,x,bK,bL,al⟩:=Hx6 J a3 D cg aK (cq.trans (aK.below (m':=w.heap.size) (λk hk e=>by omega) (by omega)));have cL:=aK.size;obtain⟨m',rfl⟩:∃m',m=m'+1:=⟨m-1,by omega⟩;clear J a3 D cg aK;by_cases H:t<many
   ·have cy:decide (t<many)=true:=by simpa using H
    have cb:=bL.owns cu (A1 _) (λk hk e=>by omega);have bu:=bC w (w+3) (.slice ap bs.length aq) (.slice (some ⟨w+4,0,none⟩) 272 272) L bs p wr ao bM al (by omega) ((Cr cb).1) hl (by rw[HL272.out];omega) cs cC (by omega);clear cb;go_wp2_with fail;refine bu.mono ?_;rintro e Y ⟨O,⟨j,h,d,a5,J,rfl,X⟩|⟨J,rfl⟩⟩;rotate_left
    ·have r:Hid (CB bs many=none):=by unfold Hid;rw[P.out,G.out];exact NM H J
     have l:=x.save O (by have:=x.lt;omega) (λk hk e=>by omega);have ab:=A0 (al.trans (O.below (m':=w.heap.size) (λk hk e=>by omega) (by omega)));have i:=Kj ⟨w,0,none⟩ ⟨w+1,0,none⟩ ⟨w+2,0,none⟩ _ _ _ Y l.c0 l.c1 l.c2 l.f0 l.f1 l.f2 (by simp) (by simp) (by simp);clear O J bu;go_wp2_with fail;refine HY (f:=350) (args:=#[.pointer (some ⟨w,0,none⟩), .pointer (some ⟨w+1,0,none⟩), .pointer (some ⟨w+2,0,none⟩)]) (by simp) (by simp[go_sem]) ?_;refine i.mono ?_;rintro e K M ⟨rfl,rfl,n⟩;obtain⟨g,s⟩:=Kk l n;have o:=g.c0;have d1:=g.c1;have d2:=g.c2;clear n i g l;simp[Leaves,settle,results,results305,go_sem,o,d1,d2];exact IA r (ab.trans s)
    have ds:=Qh J;have Q:=A0 J;have ci:=x.save O (by have:=x.lt;omega) (λk hk e=>by omega);obtain⟨Z,an,b4,F⟩:=Hx4 (al.trans (O.below (m':=w.heap.size) (λk hk e=>by omega) (by omega))) (O.owns bK (A1 _) (λk hk e=>by omega)) (bL.trans (O.mono (m':=u.heap.size) cL (λk _ e=>Or.inr e))) X;have cj:=b4.size;obtain⟨d0,c5,b6,b7,b8,au,cS,c9⟩:=TL Y (.int .i64 0) (.int .i64 0) (.int .i64 0) 145;obtain⟨bO,c6,f0,f1,f2,bc⟩:=P1 (.int .i64 j) (.int .i64 h) (.int .i64 d) b6 b7 b8;have a6:=au 0;have aL:=au 1;have aM:=au 2;have ak:=A0 (c9.trans bc);have ck:Y<bO.heap.size:=by have:=bc.size;omega
    have av:=Qu j h d bO;have HRes6:=A0 ci;clear O J X au c9 bc bu ci cS;by_cases h1:1<=d
    ·skip
     go_wp2_with fail;have ad:max d 1=d:=by omega
     refine av.mono ?_;rintro e E ⟨rfl,T⟩;obtain⟨f0,f1,f2⟩:=WP T ck f0 f1 f2;have B:Hid (Below Y Y E):=ak.trans (T.mono ak.size);have c:=HRes6.save (Au.of (S:=λ_=>False) B) (by have:=HRes6.lt;omega) (λ_ _ q=>q);obtain⟨a0,a7,b3,a8⟩:=Hx4 (Z.trans (B.mono Z.size)) (Ag an B) (F.keep B) (b4.then B cj);have bt:=a8.size;clear av T c5 c6 b6 b7 b8 a6 aL aM;by_cases I:AJ (j,h,d)=false
     ·skip
      have r:Hid (CB bs many=none):=by unfold Hid;rw[P.out,G.out];exact Jb H Q (Or.inl I)
      rw[I];have i:=Kj ⟨w,0,none⟩ ⟨w+1,0,none⟩ ⟨w+2,0,none⟩ _ _ _ E c.c0 c.c1 c.c2 c.f0 c.f1 c.f2 (by simp) (by simp) (by simp);go_wp2_with fail;refine HY (f:=350) (args:=#[.pointer (some ⟨w,0,none⟩), .pointer (some ⟨w+1,0,none⟩), .pointer (some ⟨w+2,0,none⟩)]) (by simp) (by simp[go_sem]) ?_;refine i.mono ?_;rintro e K M ⟨rfl,rfl,n⟩;obtain⟨g,s⟩:=Kk c n;have o:=g.c0;have d1:=g.c1;have d2:=g.c2;clear n i g c;simp[Leaves,settle,results,results305,go_sem,o,d1,d2];exact IA r (a0.trans s)
     have A:AJ (j,h,d)=true:=by cases q:AJ (j,h,d) with
      |true=>rfl
      |false=>exact absurd q I
     clear I;have bp:=JL A;have af:1<=d/\d<=18:=by omega
     have y:IntKind.i64.wrap (t+d)=t+d:=by rw[H2];omega
     have ct:=A0 af;clear bp af;by_cases hd:t<h
     ·have r:Hid (CB bs many=none):=by unfold Hid;rw[P.out,G.out];exact Jb H Q (Or.inr (Or.inl hd))
      have b5:decide (t<h)=true:=by simpa using hd
      rw[A];have i:=Kj ⟨w,0,none⟩ ⟨w+1,0,none⟩ ⟨w+2,0,none⟩ _ _ _ E c.c0 c.c1 c.c2 c.f0 c.f1 c.f2 (by simp) (by simp) (by simp);go_wp2_with fail;refine HY (f:=350) (args:=#[.pointer (some ⟨w,0,none⟩), .pointer (some ⟨w+1,0,none⟩), .pointer (some ⟨w+2,0,none⟩)]) (by simp) (by simp[go_sem]) ?_;refine i.mono ?_;rintro e K M ⟨rfl,rfl,n⟩;obtain⟨g,s⟩:=Kk c n;have o:=g.c0;have d1:=g.c1;have d2:=g.c2;clear n i g c;simp[Leaves,settle,results,results305,go_sem,o,d1,d2];exact IA r (a0.trans s)
     have b5:decide (t<h)=false:=by simpa using hd
     by_cases ax:many<t+d
     ·have r:Hid (CB bs many=none):=by unfold Hid;rw[P.out,G.out];exact Jb H Q (Or.inr (Or.inr (by show many<t+max d 1;omega)))
      have bP:decide (many<t+d)=true:=by simpa using ax
      rw[A];have i:=Kj ⟨w,0,none⟩ ⟨w+1,0,none⟩ ⟨w+2,0,none⟩ _ _ _ E c.c0 c.c1 c.c2 c.f0 c.f1 c.f2 (by simp) (by simp) (by simp);go_wp2_with fail;refine HY (f:=350) (args:=#[.pointer (some ⟨w,0,none⟩), .pointer (some ⟨w+1,0,none⟩), .pointer (some ⟨w+2,0,none⟩)]) (by simp) (by simp[go_sem]) ?_;refine i.mono ?_;rintro e K M ⟨rfl,rfl,n⟩;obtain⟨g,s⟩:=Kk c n;have o:=g.c0;have d1:=g.c1;have d2:=g.c2;clear n i g c;simp[Leaves,settle,results,results305,go_sem,o,d1,d2];exact IA r (a0.trans s)
     have bP:decide (many<t+d)=false:=by simpa using ax
     have hc:¬(AJ (j,h,d)=false\/t<h\/many<t+max d 1):=by
      rintro(q|q|q)
      ·rw[A] at q;cases q
      ·exact hd q
      ·omega
     have HStep:Hid (BL L bs many (many.toNat+1) 0 q []=BL L bs many m' (t+d) a5 (out++[(j,h,d)])):=by
      have aj:BL L bs many (m'+1) t p out=BL L bs many m' (t+max d 1) a5 (out++[(j,h,d)]):=JQ H Q hc;rw[ad] at aj;unfold Hid;rw[G.out];exact aj
     clear hc;rw[A];have c0:=c.c0;have a6:=c.f0;have HRes9:=A0 c;clear c A ad
     go_wp2_with (first|(at_builtin;have aa:=a7.alloc (.cells #[j, h, d] 145);refine F0 _ rfl _ _ 95 rfl u.heap.size 145 i0 _ 3 24 underlying95 ca cm co cp rfl (by decide) _ _ _ rfl aa ⟨E,0,none⟩ 1 1 (FG (j,h,d)) rfl rfl (NU _ _ _ _ _) (NW _) (by simp[maxLen];omega) (by omega) (by simp;omega) ?_
                         intro cV bx V ac _ bb;obtain⟨ag,ah,ai⟩:=WO a8 bt HRes9 (by omega) b3 (by omega) ac (λb bl=>Ah a7 b bl);obtain⟨C,c3,rfl,_⟩:=Aw V;obtain⟨aU,HRes10,aX,HSv10⟩:=Hx4 V ag ah ai;have cz:=HRes10.c0;have cX:=HRes10.f0;clear V ac bb aa ag ah ai))
     have U:(out++[(j,h,d)]).length=out.length+1:=by simp
     obtain⟨aV,HRes11,b0,HSv11⟩:=Hx4 (S8 aU (a:=⟨w,0,none⟩) (by show w<u.heap.size;omega) (.slice C (out.length+1) c3)) (HRes10.put0 (.slice C (out.length+1) c3)) (aX.save ((Au.refl (·=w.heap.size) (w+4) bx).set (p:=⟨w,0,none⟩) (Or.inl rfl) (.slice C (out.length+1) c3)) (by omega) (by intro e;exact absurd e (by omega))) (HSv10.set (p:=⟨w,0,none⟩) (Or.inl (Or.inl rfl)) (.slice C (out.length+1) c3));exact⟨⟨t+d,a5,out++[(j,h,d)],C,c3,m',by first|rfl|rw[show max d 1=d by omega],by omega,by omega,by omega,by omega,by omega,by rw[U];omega,HStep,b0,by rw[U];exact HRes11,by rw[U,Qs];exact aV,HSv11⟩,by simp[intOf];omega⟩
    ·skip
     go_wp2_with fail;have ad:max d 1=1:=by omega
     refine av.mono ?_;rintro e E ⟨rfl,T⟩;obtain⟨f0,f1,f2⟩:=WP T ck f0 f1 f2;have B:Hid (Below Y Y E):=ak.trans (T.mono ak.size);have c:=HRes6.save (Au.of (S:=λ_=>False) B) (by have:=HRes6.lt;omega) (λ_ _ q=>q);obtain⟨a0,a7,b3,a8⟩:=Hx4 (Z.trans (B.mono Z.size)) (Ag an B) (F.keep B) (b4.then B cj);have bt:=a8.size;clear av T c5 c6 b6 b7 b8 a6 aL aM;by_cases I:AJ (j,h,d)=false
     ·skip
      have r:Hid (CB bs many=none):=by unfold Hid;rw[P.out,G.out];exact Jb H Q (Or.inl I)
      rw[I];have i:=Kj ⟨w,0,none⟩ ⟨w+1,0,none⟩ ⟨w+2,0,none⟩ _ _ _ E c.c0 c.c1 c.c2 c.f0 c.f1 c.f2 (by simp) (by simp) (by simp);go_wp2_with fail;refine HY (f:=350) (args:=#[.pointer (some ⟨w,0,none⟩), .pointer (some ⟨w+1,0,none⟩), .pointer (some ⟨w+2,0,none⟩)]) (by simp) (by simp[go_sem]) ?_;refine i.mono ?_;rintro e K M ⟨rfl,rfl,n⟩;obtain⟨g,s⟩:=Kk c n;have o:=g.c0;have d1:=g.c1;have d2:=g.c2;clear n i g c;simp[Leaves,settle,results,results305,go_sem,o,d1,d2];exact IA r (a0.trans s)
     have A:AJ (j,h,d)=true:=by cases q:AJ (j,h,d) with
      |true=>rfl
      |false=>exact absurd q I
     clear I;have bp:=JL A;have af:1<=1/\1<=18:=by omega
     have y:IntKind.i64.wrap (t+1)=t+1:=by rw[H2];omega
     have ct:=A0 af;clear bp af;by_cases hd:t<h
     ·have r:Hid (CB bs many=none):=by unfold Hid;rw[P.out,G.out];exact Jb H Q (Or.inr (Or.inl hd))
      have b5:decide (t<h)=true:=by simpa using hd
      rw[A];have i:=Kj ⟨w,0,none⟩ ⟨w+1,0,none⟩ ⟨w+2,0,none⟩ _ _ _ E c.c0 c.c1 c.c2 c.f0 c.f1 c.f2 (by simp) (by simp) (by simp);go_wp2_with fail;refine HY (f:=350) (args:=#[.pointer (some ⟨w,0,none⟩), .pointer (some ⟨w+1,0,none⟩), .pointer (some ⟨w+2,0,none⟩)]) (by simp) (by simp[go_sem]) ?_;refine i.mono ?_;rintro e K M ⟨rfl,rfl,n⟩;obtain⟨g,s⟩:=Kk c n;have o:=g.c0;have d1:=g.c1;have d2:=g.c2;clear n i g c;simp[Leaves,settle,results,results305,go_sem,o,d1,d2];exact IA r (a0.trans s)
     have b5:decide (t<h)=false:=by simpa using hd
     have ax:¬many<t+1:=by omega
     have d3:decide (many<=t)=false:=by simp;omega
     have bP:decide (many<t+1)=false:=by simpa using ax
     have hc:¬(AJ (j,h,d)=false\/t<h\/many<t+max d 1):=by
      rintro(q|q|q)
      ·rw[A] at q;cases q
      ·exact hd q
      ·omega
     have HStep:Hid (BL L bs many (many.toNat+1) 0 q []=BL L bs many m' (t+1) a5 (out++[(j,h,d)])):=by
      have aj:BL L bs many (m'+1) t p out=BL L bs many m' (t+max d 1) a5 (out++[(j,h,d)]):=JQ H Q hc;rw[ad] at aj;unfold Hid;rw[G.out];exact aj
     clear hc;rw[A];have c0:=c.c0;have a6:=c.f0;have HRes9:=A0 c;clear c A ad
     go_wp2_with (first|(at_builtin;have aa:=a7.alloc (.cells #[j, h, d] 145);refine F0 _ rfl _ _ 95 rfl u.heap.size 145 i0 _ 3 24 underlying95 ca cm co cp rfl (by decide) _ _ _ rfl aa ⟨E,0,none⟩ 1 1 (FG (j,h,d)) rfl rfl (NU _ _ _ _ _) (NW _) (by simp[maxLen];omega) (by omega) (by simp;omega) ?_
                         intro cV bx V ac _ bb;obtain⟨ag,ah,ai⟩:=WO a8 bt HRes9 (by omega) b3 (by omega) ac (λb bl=>Ah a7 b bl);obtain⟨C,c3,rfl,_⟩:=Aw V;obtain⟨aU,HRes10,aX,HSv10⟩:=Hx4 V ag ah ai;have cz:=HRes10.c0;have cX:=HRes10.f0;clear V ac bb aa ag ah ai))
     have U:(out++[(j,h,d)]).length=out.length+1:=by simp
     obtain⟨aV,HRes11,b0,HSv11⟩:=Hx4 (S8 aU (a:=⟨w,0,none⟩) (by show w<u.heap.size;omega) (.slice C (out.length+1) c3)) (HRes10.put0 (.slice C (out.length+1) c3)) (aX.save ((Au.refl (·=w.heap.size) (w+4) bx).set (p:=⟨w,0,none⟩) (Or.inl rfl) (.slice C (out.length+1) c3)) (by omega) (by intro e;exact absurd e (by omega))) (HSv10.set (p:=⟨w,0,none⟩) (Or.inl (Or.inl rfl)) (.slice C (out.length+1) c3));exact⟨⟨t+1,a5,out++[(j,h,d)],C,c3,m',by first|rfl|rw[show max d 1=1 by omega],by omega,by omega,by omega,by omega,by omega,by rw[U];omega,HStep,b0,by rw[U];exact HRes11,by rw[U,Qs];exact aV,HSv11⟩,by simp[intOf];omega⟩
   ·obtain rfl:t=many:=by omega
    have cx:Hid (CB bs t=some (out,p)):=by unfold Hid;rw[P.out,G.out];exact Ma (by omega)
    have cy:decide (t<t)=false:=by simp
    have c0:=x.c0;have c1:=x.c1;have c2:=x.c2;have a6:=x.f0;have aL:=x.f1;have aM:=x.f2;have cU:=ao.c1;obtain⟨an,F⟩:=Hx2 (S8 (S8 (S8 bK (a:=⟨w,0,none⟩) (by show w<u.heap.size;omega) (.slice a out.length cap)) (a:=⟨w+1,0,none⟩) (by show w.heap.size+1<u.heap.size;omega) (.int .i64 p)) (a:=⟨w+1+1,0,none⟩) (by show w.heap.size+1+1<u.heap.size;omega) (.bool true)) (((x.put0 (.slice a out.length cap)).put1 (.int .i64 p)).put2 (.bool true));have Z:=A0 (((al.setCell (p:=⟨w,0,none⟩) (A1 _) (.slice a out.length cap)).setCell (p:=⟨w+1,0,none⟩) (by show w<=w.heap.size+1;omega) (.int .i64 p)).setCell (p:=⟨w+1+1,0,none⟩) (by show w<=w.heap.size+1+1;omega) (.bool true)).drew;go_wp2_with fail
    go_region
    obtain⟨z,N⟩:∃z,(((wr.setCell ⟨w,0,none⟩ (Value.slice a out.length cap)).setCell ⟨w+1,0,none⟩ (.int .i64 p)).setCell ⟨w+1+1,0,none⟩ (.bool true)).drew=z:=⟨_,rfl⟩;have cw:Hid (Jf z (.slice a out.length cap) out):=by rw[<-N];exact(UC an).1
    have cr:Hid (Below w w z):=by rw[<-N];exact Z
    have aF:CG z w.heap.size (.slice a out.length cap) (.int .i64 p) (.bool true):=by rw[<-N];exact⟨F.c0,F.c1,F.c2,F.f0,F.f1,F.f2⟩
    rw[N];have i:=WM ⟨w,0,none⟩ ⟨w+1,0,none⟩ ⟨w+2,0,none⟩ z;have o:=aF.c0;have d1:=aF.c1;have d2:=aF.c2;clear N c0 c1 c2 a6 aL aM cU aF;go_wp2_with fail;refine HY (f:=350) (args:=#[.pointer (some ⟨w,0,none⟩), .pointer (some ⟨w+1,0,none⟩), .pointer (some ⟨w+2,0,none⟩)]) (by simp) (by simp[go_sem]) ?_;refine i.mono ?_;rintro e K M ⟨rfl,rfl,rfl⟩;simp[Leaves,settle,results,results305,go_sem,o,d1,d2];exact⟨a,cap,out,p,true,rfl,cw,Or.inl ⟨cx,rfl⟩,cr⟩
theorem jP(v:Value)(l:List An)(w:World)(f:Jf w v l)(d:Es l=true):
 Calls prog 35 #[v] w λe w'=>∃(a:Option Addr) (cap:Nat) (b:List Bool),e= .returned (.tuple #[.slice a b.length cap, .bool true])/\Hid (OK l b)/\Gy w' (.slice a b.length cap) b/\Below w w w':=
 (jK v l w f).mono λe w' ⟨a,c,b,h1,h2⟩=>⟨a,c,b,by rw[d] at h1;exact h1,h2⟩
theorem jQ{l:List An}{b:List Bool}(hb:OK l b):b.length<=30000:=by
 cases h:Es l with
 |true=>
  obtain⟨L,a,rfl⟩:=hb.1 h;obtain⟨_,h2,_⟩:=Qn a h;have h3:=WL h2 l;have h4:=Ug L;have h5:=LU L 272;have h6:=(Rt.1 h).1;rw[Qm,A9];omega
 |false=>rw[hb.2 h];simp
theorem WQ(n:Int)(w:World)(b:n<=9223372036854775807):
 Calls prog 12 #[n] w λe w'=>e= .returned (.int .i64 (KR n))/\w=w':=by
 by_cases h:n<=0
 ·have d:decide (n<=0)=true:=by simpa using h
  have a:Hid (KR n=0):=by unfold Hid KR;rw[A4 h]
  go_enter func12,ntmps12;go_wp2_with fail;go_ret;exact⟨by rw[a.out];rfl,rfl⟩
 ·have d:decide (n<=0)=false:=by simpa using h
  have a:Hid (KR n=(n-1)/32+1):=by unfold Hid KR;rw[A3 h]
  have h1:1<=n:=by omega
  have h2:0<=n-1:=by omega
  go_enter func12,ntmps12;go_wp2_with fail;go_ret;exact⟨by rw[a.out];rfl,rfl⟩
theorem Rv(s:ByteArray)(w:World):
 Calls prog 11 #[.string s] w λe w'=>∃(t:ByteArray) (p ok:Bool),e= .returned (.tuple #[.string t, .bool p, .bool ok])/\Hid (EV s t p ok)/\Below w w w':=by
 by_cases h0:s.size=256
 ·have b0:((s.size:Int)!=256)=false:=by rw[h0];decide
  have b1:((s.size:Int)==256)=true:=by rw[h0];decide
  have d:=A0 h0;have q:=UL s (by omega);have a:=A0 q;have m:=er s w (by omega);clear h0 q;go_enter func11,ntmps11;go_wp2_with fail;refine m.mono ?_;rintro e E ⟨I,rfl,x,⟨a1,c1,rfl⟩,j⟩;have n:=jP (.slice a1 (CV s.data.toList s.size 0).length c1) (Fh s) E x a;have y:=A0 j;clear m x j;generalize (CV s.data.toList s.size 0).length=H at*;go_wp2_with fail;refine n.mono ?_;rintro e F ⟨C,c2,b2,rfl,c,r,k⟩;have z:=A0 (Jm y k);have G:=jQ c;have g:=A0 c;have o:=dO (.slice C b2.length c2) b2 F r (by omega);have u:=GI (DN b2);have i:=A0 u;generalize v:strOfNums (DN b2)=ts at*;have B:=A0 v;clear n c r k u v;go_wp2_with fail;refine o.mono ?_;rintro e J ⟨rfl,l⟩;have f:=A0 (Jm z l);clear o l;by_cases D:ts.size<256
  ·have d1:decide ((ts.size:Int)<256)=true:=by simp;omega
   have d2:decide (ts.size<256)=true:=by simp;omega
   go_wp2_with fail
   go_ret3
   refine⟨ts,true,true,rfl,⟨λh=>absurd d h,λ_=>⟨rfl,?_⟩⟩,f⟩;obtain⟨L,b,rfl⟩:=g.out.1 a;exact⟨L,b,Or.inl ⟨by rw[<-i.out];exact D,B.symm,rfl⟩⟩
  ·have d1:decide ((ts.size:Int)<256)=false:=by simp;omega
   have d2:decide (ts.size<256)=false:=by simp;omega
   go_wp2_with fail
   go_ret3
   refine⟨s,false,true,rfl,⟨λh=>absurd d h,λ_=>⟨rfl,?_⟩⟩,f⟩;obtain⟨L,b,rfl⟩:=g.out.1 a;exact⟨L,b,Or.inr ⟨by rw[<-i.out];omega,rfl,rfl⟩⟩
 ·have b0:((s.size:Int)!=256)=true:=by simp;omega
  have b1:((s.size:Int)==256)=false:=by simp;omega
  have A:Hid (EV s (ByteArray.mk #[]) false false):=⟨λ_=>⟨rfl,rfl,rfl⟩,λh=>absurd h h0⟩;clear h0;go_enter func11,ntmps11;go_wp2_with fail
  go_ret3
  exact⟨_,false,false,rfl,A,A2 _ _⟩
def EE(s:ByteArray)(p:Bool):ByteArray:=UH (Ec s p)
def GQ(s:ByteArray)(p:Bool):Bool:=UI (Ec s p)
theorem OO{s:ByteArray}{p:Bool}(h:Ec s p=none):EE s p=ByteArray.empty/\GQ s p=false:=by unfold EE GQ;rw[h];exact⟨rfl,rfl⟩
theorem WR{s:ByteArray}{p:Bool}{a:List Int}(h:Ec s p=some a):EE s p=strOfNums a/\GQ s p=true:=by unfold EE GQ;rw[h];exact⟨rfl,rfl⟩
theorem jR(s:ByteArray)(p:Bool)(w:World)(hs:s.size<=17592186044416):
 Calls prog 258 #[.string s, .bool p] w λe w'=>e= .returned (.tuple #[.string (EE s p), .bool (GQ s p)])/\Below w w w':=by
 cases p with
 |false=>
  by_cases h0:s.size=256
  ·have b0:((s.size:Int)!=256)=false:=by rw[h0];decide
   have b1:((s.size:Int)==256)=true:=by rw[h0];decide
   have hd:=WR (UO h0);have c:Hid (EE s false=s):=by unfold Hid;rw[hd.1,Uu]
   have d:=A0 hd.2;clear h0 hd;go_enter func258,ntmps258;go_wp2_with fail;go_ret2;exact⟨by rw[c.out,d.out];rfl,A2 _ _⟩
  ·have b0:((s.size:Int)!=256)=true:=by simp;omega
   have b1:((s.size:Int)==256)=false:=by simp;omega
   have hd:=OO (eu h0);obtain⟨c,d⟩:=Hx2 hd.1 hd.2;clear h0 hd;go_enter func258,ntmps258;go_wp2_with fail;go_ret2;exact⟨by rw[c.out,d.out];rfl,A2 _ _⟩
 |true=>
  have R:=dV s w hs;have V:=Qq (Bq s);rw[KP] at V;go_enter func258,ntmps258;go_wp2_with fail;refine R.mono ?_;rintro e ac ⟨aq,rfl,E,P⟩;obtain⟨a1,c1,rfl,T,_⟩:=Aw E;have t:=A0 (Cr E).1;have H:=A0 P;have a6:(BX (Bq s)).length<=140737488355328:=by omega
  have D:=jO (.slice a1 (BX (Bq s)).length c1) (BX (Bq s)) 256 ac t a6;clear R E P V;go_wp2_with fail;refine D.mono ?_;rintro e G ⟨M,c2,l,q,ok,rfl,F,⟨hr,rfl⟩|⟨hr,rfl,rfl,rfl⟩,m⟩;rotate_left
  ·have hd:=OO (ev hr);obtain⟨c,d,f⟩:=Hx3 hd.1 hd.2 (Jm H m);rw[show([]:List An).length=0 from rfl];clear D F hr m hd;generalize BX (Bq s)=bs at*;go_wp2_with fail;go_ret2;exact⟨by rw[c.out,d.out];rfl,f⟩
  obtain⟨f,J,z⟩:=Hx3 (Jm H m) F (Aj t m);obtain⟨⟨ap,v,aa⟩,a2,a8,_,_,_⟩:=Up hr;obtain⟨k,Hgood⟩:=Hx2 (ew hr) (UP hr);have al:l.length<=256:=by have:=(NP v).1;simp only[C4] at this;omega
  clear D F hr m v aa;generalize BX (Bq s)=bs at*;obtain⟨Q,rfl⟩:=G0 (a:=q) (by omega);rw[BY] at k Hgood;by_cases g:8<=(bs.length:Int) -Q
  ·have hd:=OO (k (Or.inl g));obtain⟨c,d⟩:=Hx2 hd.1 hd.2;have d1:decide (8<=(bs.length:Int) -(Q:Int))=true:=by simpa using g
   clear hd;go_wp2_with fail;go_ret2;exact⟨by rw[c.out,d.out];rfl,f⟩
  have d1:decide (8<=(bs.length:Int) -(Q:Int))=false:=by simpa using g
  have A:Q<=bs.length:=by omega
  have a4:bs.length<=c1:=T;rcases Da z with⟨h0,_⟩|⟨_,Z,ao,af,ab,_,a5,N⟩
  ·rw[h0] at A;simp at A;omega
  injection ab with q1 q2 q3;subst q1 q3;have K:=A0 N;clear N q2;have a3:bs.length<Q+8:=by omega
  by_cases B:Q=c1
  ·have O:Q=bs.length:=by omega
   have hd:Ec s true=Bk 256 l []:=Hgood (by rintro(h|h);exact g h;rw[O,List.drop_length] at h;cases h);have I:=A0 hd;have o:=UK (.slice M l.length c2) l 256 G J (by omega);rw[<-hd] at o;obtain⟨n,U⟩:∃n,bs.length=n:=⟨_,rfl⟩;have a7:c1=n:=by omega
   have a9:Q=n:=by omega
   rw[U];subst a7 a9;clear hd U B O K k Hgood t z g A a4 a3 a8 a2 T;go_wp2_with fail;go_loop [39] (λr=>r= .int .i64 0) (λ_=>0)
   case atStart=>rfl
   case round=>
    subst hrel;go_wp2_with fail;refine o.mono ?_;rintro e ad ⟨rfl,C⟩;go_wp2_with fail;go_ret2;exact⟨rfl,Jm f C⟩
  ·have I:Hid ((∀i (b:i<bs.length),Q<=i->bs[i]=false)->Ec s true=Bk 256 l []):=λh=>Hgood (by
    rintro(u|u)
    ·exact g u
    ·rw[List.any_eq_true] at u;obtain⟨x,v,W⟩:=u;obtain⟨i,b,rfl⟩:=HQ v;rw[G1] at b;rw[K4,h _ (by omega) (by omega)] at W;cases W)
   have X:Hid (∀i (b:i<bs.length),Q<=i->bs[i]=true->Ec s true=none):=λi b ag hb=>k (Or.inr (by
    rw[List.any_eq_true];refine⟨bs[i],?_,hb⟩;have:bs[i]=(bs.drop Q)[i-Q]'(by rw[G1];omega):=by
     rw[K4];congr 1;omega
    rw[this];exact BA _))
   have an:¬(c1=Q):=λe=>B e.symm;have o:=UK (.slice M l.length c2) l 256 G J (by omega);have ah:Z<G.heap.size:=a5;clear k Hgood t z B;go_wp2_with fail;go_loop [39] (λr=>∃j:Nat,r= .int .i64 j/\j<=bs.length-Q/\Hid (∀i (b:i<bs.length),Q<=i->i<Q+j->bs[i]=false)) (λr=>bs.length-Q-(intOf r).toNat)
   case atStart=>exact⟨0,rfl,A7 _,λi b h1 h2=>by omega⟩
   case round=>
    obtain⟨j,rfl,ai,L⟩:=hrel;by_cases aj:j<bs.length-Q
    ·have S:Q+j<bs.length:=by omega
     have a0:=K (Q+j) S;rw[<-Hl] at a0;have y:=A0 (X (Q+j) S (by omega));have Hnext:Hid (bs[Q+j]=false->∀i (b:i<bs.length),Q<=i->i<Q+(j+1)->bs[i]=false):=λh i b h1 h2=>by
      by_cases e:i=Q+j
      ·subst e;exact h
      ·exact L i b h1 (by omega)
     generalize bs[Q+j]=x at*;cases x with
     |false=>
      have Y:=A0 (Hnext rfl);clear Hnext y;go_wp2_with fail;exact⟨⟨j+1,by go_num,by omega,Y⟩,by simp[intOf];omega⟩
     |true=>
      have hd:=OO (y rfl);obtain⟨c,d⟩:=Hx2 hd.1 hd.2;clear hd Hnext y;go_wp2_with fail;go_ret2;exact⟨by rw[c.out,d.out];rfl,f⟩
    ·have ak:j=bs.length-Q:=by omega
     have hd:=I (λi b h1=>L i b h1 (by omega));rw[<-hd] at o;clear hd;go_wp2_with fail;refine o.mono ?_;rintro e ad ⟨rfl,C⟩;go_wp2_with fail;go_ret2;exact⟨rfl,Jm f C⟩
section
theorem AR.next{p:Pl}(h:AR p){d:Dk}{vs:List Vl}{tabs:List (List Us)}(hd:Bd d)(h1:d.kept.length=p.disk.kept.length)(h2:d.keep.length=p.disk.keep.length)(b:D5 vs)(hm:(As vs).length<=1000000)
 (a:AN tabs=true)(hl:tabs.length=p.tabs.length)(hs:CX (λn=>(As vs).count n) tabs):AR {p with disk:=d,vols:=vs,tabs:=tabs}:=
 ⟨hd,by show d.keep.length<=_;rw[h2];exact h.keep,b,hm,a,by show tabs.length<=_;rw[hl];exact h.few,hs,h.mt1,h.mt2,by show(d.kept.length:Int)=_+16*(tabs.length:Int);rw[h1,hl];exact h.len,h.gen1,h.gen2,h.area0,h.area1⟩
def Ia(p:Pl)(id n:Int):Pl:={p with vols:=[(id,n,[])]}
theorem jS{p:Pl}(h:AR p){id n:Int}(h1:1<=id)(h2:id<=1000)(h3:0<=n)(h4:n<=100000)(a:p.vols=[]):AR (Ia p id n):=by
 have hs:=h.slots;rw[a] at hs;exact h.next h.disk rfl rfl ⟨by simp,λv a=>by rw[B6.1 a];exact⟨h1,h2,h3,h4,by simp,nofun⟩,W3 _ _,nofun⟩ (by simp[As,Ax]) h.may rfl hs
def DR(p:Pl)(n:Int):Int:=2+2*p.mt+16*rC n+rA n
def K6(n:Int):Nat:=(Aq (rS n)).toNat
def BO(p:Pl)(n:Int):ByteArray:=⟨((DA p.disk (DR p n).toNat (K6 n)).take (rS n).toNat).toArray⟩
def Kl(p:Pl)(n:Int)(s:ByteArray):Prop:=EE (BO p n) (rP n)=s/\GQ (BO p n) (rP n)=true
theorem jT(n:Int):Aq n=KR n:=rfl
theorem K7{s:Int}(h:0<=s)(h2:s<=256):∃k:Nat,Aq s=(k:Int)/\s<=32*k/\32*k<s+32/\k<=8:=by
 unfold Aq;split
 ·exact⟨0,rfl,by omega,by omega,by omega⟩
 ·exact⟨((s-1)/32+1).toNat,by omega,by omega,by omega,by omega⟩
theorem jU{p:Pl}(h:AR p){n:Int}(b:0<(As p.vols).count n):∃a:Nat,DR p n=(a:Int)/\a+K6 n<=p.disk.kept.length:=by
 obtain⟨c,g⟩:=h.slots.of n b;obtain⟨h0,hm⟩:=Ke c;have hb:=IV hm;have h1:=h.mt1;have h2:=h.len;obtain⟨k,hk,d,e,f⟩:=K7 (s:=rS n) (by omega) (by omega);refine⟨(DR p n).toNat,by unfold DR;omega,?_⟩;unfold DR K6;omega
def Bi(c:Nat)(l:List Us)(t:ByteArray)(pk:Bool):Int:=BF c (DG l (Aq t.size)) t.size pk
def AU(p:Pl)(v:Vl)(blk:Int)(t:ByteArray)(pk:Bool)(c:Nat):Pl:=
 {p with disk:=Bb p.disk (2+2*p.mt+16*c+DG (p.tabs.getD c []) (Aq t.size)).toNat t (Aq t.size).toNat,
         vols:=[(v.1,v.2.1,[(blk,Bi c (p.tabs.getD c []) t pk)])],tabs:=Ce (p.tabs.set c (BN (p.tabs.getD c []) (Aq t.size))) (Ax v.2.2)}
theorem jV{c a s:Int}{p:Bool}(h:Cb c a s p=true):BG (BF c a s p)=true/\rC (BF c a s p)=c/\rA (BF c a s p)=a/\rS (BF c a s p)=s/\rP (BF c a s p)=p:=by
 obtain⟨h1,h2⟩:=YX h;rw[Ii h1] at h2;simp only[Value.agg.injEq,Array.mk.injEq,List.cons.injEq,Value.int.injEq,Value.bool.injEq,and_true,true_and] at h2;exact⟨h1,h2.1,h2.2.1,h2.2.2.1,h2.2.2.2⟩
structure CH(p:Pl)(v:Vl)(blk:Int)(t:ByteArray)(pk:Bool)(c:Nat):Prop where
 ok:AR p
 vs:p.vols=[v]
 key:∀q∈v.2.2,q.1=blk
 b0:0≤blk
 b1:blk<v.2.1
 t1:1≤t.size
 t2:t.size≤256
 pk:pk=true∨t.size=256
 cl:c<p.tabs.length
 take:Cc (p.tabs.getD c []) (Aq t.size)=true
 cache:p.disk.cache.length+8≤20000
section
variable {p:Pl} {v:Vl} {blk:Int} {t:ByteArray} {pk:Bool} {c:Nat}
theorem CH.place(h:CH p v blk t pk c):∃a k:Nat,DG (p.tabs.getD c []) (Aq t.size)=(a:Int)/\Aq t.size=(k:Int)/\a+k<=16/\1<=k/\k<=8/\(t.size:Int)<=32*k/\32*(k:Int)<t.size+32/\∀u∈p.tabs.getD c [],u.1+u.2.1<=a\/(a:Int)+k<=u.1:=by
 obtain⟨h1,h2,h3,a,h4,h5,h6⟩:=Oe h.take;obtain⟨k,hk,d,e,f⟩:=K7 (s:=t.size) (by omega) (by have:=h.t2;omega);rw[hk,BY] at h6;have hr:=Vt h6;refine⟨a,k,by rw[(VU h.take).2,h4],hk,hr,by have:=h.t1;omega,f,d,e,λu b=>?_⟩;have:=QT h1 (by have:=h.t1;omega) h6 u b;omega
theorem CH.num(h:CH p v blk t pk c):BG (Bi c (p.tabs.getD c []) t pk)=true/\rC (Bi c (p.tabs.getD c []) t pk)=c/\rA (Bi c (p.tabs.getD c []) t pk)=DG (p.tabs.getD c []) (Aq t.size)/\rS (Bi c (p.tabs.getD c []) t pk)=t.size/\rP (Bi c (p.tabs.getD c []) t pk)=pk:=by
 obtain⟨a,k,b,d,e,f,g,i,j,_⟩:=h.place;refine jV ?_;unfold Cb;rw[E0,b,d];have h1:=h.cl;have h2:=h.ok.few;have h3:=h.t1;have h4:=h.t2;have h5:=h.pk;refine⟨by omega,by omega,by omega,by omega,by omega,by omega,?_⟩;rcases h5 with h5|h5
 ·exact Or.inl h5
 ·exact Or.inr (by omega)
theorem CH.mem(h:CH p v blk t pk c):v∈p.vols:=by rw[h.vs];exact B6.2 rfl
theorem CH.old(h:CH p v blk t pk c):v.2.2=[]\/∃o,v.2.2=[(blk,o)]:=by
 have hl:=(h.ok.vols.ok v h.mem).len;have hk:=h.key
 match h9:v.2.2,hl,hk with
 |[],_,_=>exact .inl rfl
 |[(k,o)],_,hk=>exact .inr ⟨o,by rw[show k=blk from hk _ (B6.2 rfl)]⟩
theorem CH.vol(h:CH p v blk t pk c):Gv v.1 v.2.1 [(blk,Bi c (p.tabs.getD c []) t pk)]:=
 have a:=h.ok.vols.ok v h.mem;have d:=h.num.1
 by generalize Bi c (p.tabs.getD c []) t pk=n at*;exact⟨a.id1,a.id2,a.sz0,a.sz1,by simp,λq b=>by rw[B6.1 b];exact⟨h.b0,h.b1,d⟩⟩
theorem Rw(p:Pl)(v:Vl)(blk:Int)(t:ByteArray)(pk:Bool)(c:Nat):As (AU p v blk t pk c).vols=[Bi c (p.tabs.getD c []) t pk]:=by
 unfold AU;simp only[Iz,Ax,List.map]
theorem CH.count(h:CH p v blk t pk c)(n:Int):(As (AU p v blk t pk c).vols).count n+(Ax v.2.2).count n=(As p.vols).count n+if Bi c (p.tabs.getD c []) t pk=n then 1 else 0:=by
 rw[h.vs,Iz,Rw,iO,List.count_nil];omega
theorem OP{vs:List Vl}{v:Vl}(b:v∈vs){q:Int×Int}(a:q∈v.2.2):0<(As vs).count q.2:=
 H3.2 (L1.2 ⟨v,b,E1.2 ⟨q,a,rfl⟩⟩)
theorem CH.slots(h:CH p v blk t pk c):CX (λn=>(As (AU p v blk t pk c).vols).count n) (AU p v blk t pk c).tabs/\AN (AU p v blk t pk c).tabs=true/\(AU p v blk t pk c).tabs.length=p.tabs.length/\(As p.vols).count (Bi c (p.tabs.getD c []) t pk)=0/\
 ∀k (hk:k<(Ax v.2.2).length),Kg (Ce (p.tabs.set c (BN (p.tabs.getD c []) (Aq t.size))) ((Ax v.2.2).take k)) (Ax v.2.2)[k] (-1)=true:=by
 obtain⟨o,q,r,d,u⟩:=h.num;have i:=V7 (cnt':=λm=>(As p.vols).count m+if m=Bi c (p.tabs.getD c []) t pk then 1 else 0) h.ok.slots h.ok.may (n:=Bi c (p.tabs.getD c []) t pk) h.cl (by rw[d];exact h.take) o q (by rw[d];exact r) (λ_=>rfl);rw[d] at i;obtain⟨t1,t2,s⟩:=i;have hl:=(h.ok.vols.ok v h.mem).len;have l:∀m,(As p.vols).count m<=1:=λm=>A8 List.count_le_length (by rw[h.vs,Iz,Ax,B4];exact hl);have g:∀m,(Ax v.2.2).count m<=(As p.vols).count m:=λm=>by rw[h.vs,Iz];exact A1 _
 have e:=iL t1 t2 (λm=>by have:=l m;split<;>omega) (vals:=Ax v.2.2) (λm=>by have:=g m;omega);have f:=e (Ax v.2.2).length (A1 _);rw[E2 (A1 _)] at f;obtain⟨g1,g2,j,_⟩:=f;refine⟨Wq g1 λm=>?_,g2,by show(Ce _ _).length=_;rw[j,Di],s,λk hk=>(e k (Hq hk)).2.2.2 hk⟩
 ·have:=h.count m;have h5:=g m;split at this<;>split<;>first|omega|(rename_i a b;exact absurd a.symm b)|(rename_i a b;exact absurd b.symm a)
theorem CH.disk(h:CH p v blk t pk c):∃a k:Nat,2+2*p.mt+16*(c:Int)+DG (p.tabs.getD c []) (Aq t.size)=(a:Int)/\Aq t.size=(k:Int)/\1<=k/\k<=8/\t.size<=32*k/\32*k<t.size+32/\a+k<=p.disk.kept.length/\(AU p v blk t pk c).disk=Bb p.disk a t k:=by
 obtain⟨a,k,b,d,g,e,f,i,j,_⟩:=h.place;have h1:=h.ok.mt1;have h2:=h.ok.len;have h3:=h.cl;refine⟨(2+2*p.mt+16*(c:Int)+(a:Int)).toNat,k,by rw[b];omega,d,e,f,by omega,by omega,by omega,?_⟩;unfold AU;rw[b,d,BY]
theorem Rx{d:Dk}(h:Bd d){a:Nat}(t:ByteArray):∀k,a+k<=d.kept.length->d.cache.length+k<=20000->Bd (Bb d a t k)
 |0,_,_=>h
 |k+1,h1,h2=>by
  have f:=Rx (a:=a) h t k (by omega) (by omega);obtain⟨c,e,g,l,i⟩:=Jl d a t (k+1);have j:=(Jl d a t k).1;refine⟨by rw[c];exact h.pos,by rw[c];exact h.most,by rw[i];exact h2,by rw[e];exact h.fuse,by rw[e];exact h.fmost,by rw[g];exact h.klen,by rw[c];exact h.size,λx b=>?_⟩;rcases GA.1 (show x∈(Bb d a t k).cache++[(((a+k:Nat):Int),GO t k)] from b) with b|b
  ·have:=f.puts x b;rw[j] at this;rw[c];exact this
  ·rw[B6] at b;subst b;rw[c];exact⟨by dsimp only;omega,by dsimp only;omega,Ww t k⟩
theorem WS(h:CH p v blk t pk c):AR (AU p v blk t pk c):=by
 obtain⟨a,k,n,o,q,r,s,u,f,e⟩:=h.disk;obtain⟨j,l,m,_,_⟩:=h.slots;obtain⟨g,w,i,z,A⟩:=Jl p.disk a t k;exact h.ok.next (d:=(AU p v blk t pk c).disk) (vs:=(AU p v blk t pk c).vols) (tabs:=(AU p v blk t pk c).tabs) (by rw[e];exact Rx h.ok.disk t k f (by have:=h.cache;omega)) (by rw[e,g]) (by rw[e,i]) ⟨by simp[AU],λx b=>by rw[B6.1 (show x∈[_] from b)];exact h.vol,W3 _ _,λx b y hy=>by
  rw[Rw] at b hy;rw[B6.1 b,B6.1 hy]⟩ (by rw[Rw];simp) l m j
theorem WT(h:CH p v blk t pk c):BO (AU p v blk t pk c) (Bi c (p.tabs.getD c []) t pk)=t:=by
 obtain⟨a,k,b,d,m,n,e,f,o,g⟩:=h.disk;obtain⟨q,i,j,l,r⟩:=h.num;unfold BO DR K6;rw[i,j,l,g,show(AU p v blk t pk c).mt=p.mt from rfl,b,d,BY,BY,BY,ji _ _ _ _ e f]
theorem jW(h:CH p v blk t pk c){n:Int}(b:0<(As p.vols).count n):BO (AU p v blk t pk c) n=BO p n:=by
 obtain⟨a,k,e,o,q,r,w,x,y,f⟩:=h.disk;obtain⟨m,F,f1,f2,f3,f4,z,A,B,g⟩:=h.place;obtain⟨u,d,G,H,I⟩:=h.ok.slots.slot n b;obtain⟨l,D⟩:=h.ok.slots.of n b;obtain⟨h0,hm⟩:=Ke l;have hb:=IV hm;have E:=h.ok.mt1;unfold BO;rw[show DR (AU p v blk t pk c) n=DR p n from rfl,f,jj];unfold DR K6;obtain⟨j,C,_,_,_⟩:=K7 (s:=rS n) (by omega) (by omega);rw[f1] at e;by_cases i:rC n=(c:Int)
 ·have:=g u (by rw[i,BY] at d;exact d);omega
 ·omega
end
end
end Go.Proofs.YtmajkjjjfodhlaaGreatDoor
