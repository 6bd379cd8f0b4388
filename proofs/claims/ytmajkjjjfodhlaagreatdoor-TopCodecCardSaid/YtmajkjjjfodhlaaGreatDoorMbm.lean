/- Part Mbm. No condition of its own. -/
import Derived.Test.YtmajkjjjfodhlaaGreatDoorMbl
namespace Go.Proofs.YtmajkjjjfodhlaaGreatDoor
open Go.RowKit Tryz Go.Shelf
set_option linter.all false
set_option maxRecDepth 100000
set_option maxHeartbeats 8000000
theorem L9:type_of%@Option.some.inj:=@Option.some.inj
theorem oK(r o s an A:Value)(p:Pl)(m c:Nat)(vs:List Vl)(w:World)(hp:AH w r o s an A p)(E:AR p)(ab:p.disk.dead=false)(bs:Gm p)(hm:p.mt=(m:Int))(b4:Pa p.disk m c p.gen p.area vs):
 Calls prog 224 #[AO r o s an A p] w λe w'=>e= .returned (.slice none 0 0)/\Below w w w':=by
 have ag:CU w an p.vols:=hp.vols;have bN:=A0 ag;have bM:Hid (D5 p.vols):=E.vols;have hl:p.vols.length<=64:=E.vols.len;obtain⟨a0,c0,rfl⟩:=Fy ag;have bb:=A0 λg (a:Below w w g)=>O5 r o s (.slice a0 p.vols.length c0) A p g (hp.below a) E;have au:=A0 λg (a:Below w w g)=>oJ r o s (.slice a0 p.vols.length c0) A p g (hp.below a) E ab bs;have a4:=A0 λg (a:Below w w g)=>Yc r o s p.disk m c p.gen p.area vs (λ_=>False) g (λ_ h=>h.elim) (hp.disk.below a) b4;have a:=Aa.new w [r,o, p.disk.fuse,s, .bool false, m, p.gen, p.area, .slice a0 p.vols.length c0,A] 31;have aX:=(A2 w.heap.size w).alloc (A1 _) (.cells #[r,o, p.disk.fuse,s, .bool false, m, p.gen, p.area, .slice a0 p.vols.length c0,A] 31);obtain⟨aF,a5⟩:=Hx2 a aX;obtain⟨P,aV⟩:∃P:Pl,P=p:=⟨_,rfl⟩;have a2:Hid ((Jw p).length=p.vols.length):=by unfold Hid Jw IM;rw[B4]
 have cM:Hid (Jw p=Jw P):=by unfold Hid;rw[aV]
 clear hp ag E bs b4 a aX aV;unfold AO at*;dsimp only[Bm] at a4;rw[ab,hm] at*;generalize p.disk.fuse=cU at*;generalize p.gen=a8 at*;generalize p.area=a7 at*;clear hm ab;go_enter func224,ntmps224;go_wp2_with fail;refine(bb _ a5).mono ?_;rintro e bw ⟨rfl,N⟩;obtain⟨Z,G⟩:=Hx2 (aF.below N) (a5.trans (N.mono (by simp)));have bt:w.heap.size+1<=bw.heap.size:=by have:=N.size;simpa using this
 obtain⟨f0,f1,f2,f3,f4,aP,_⟩:=Z.ten;clear N bb aF a5;have bl:=a4 bw G;go_wp2_with fail;refine bl.mono ?_;rintro e B ⟨e0,dT,e1,e3,e2,rfl,bq,O⟩;obtain⟨cy,cz,cC,cF,cK,cl,cm,co,cp,cq,H,I,J,K,bT,rfl,rfl,rfl,rfl,rfl⟩:=(bq B (AW _ _)).shape;obtain⟨a1,D⟩:=Hx2 (Z.below O) (G.trans (O.mono G.size));have ai:w.heap.size+1<=B.heap.size:=A8 bt O.size;obtain⟨Q,L⟩:∃Q,Q=C5 p.disk m a8 a7 vs c:=⟨_,rfl⟩;rw[<-L];have c6:Q.gen=a8:=by rw[L];rfl
 have c5:Q.area=a7:=by rw[L];rfl
 obtain⟨f0,f1,f2,f3,f4,aP,bV,bX,_⟩:=a1.ten;have ac:w<B.heap.size:=ai;clear bq O bl a4 Z G L bt;go_wp2_with fail;have M:=(A2 B.heap.size B).alloc (A1 _) (.cells #[.slice cy cl H, .slice cz cm I, Q.disk.fuse, .slice cC co J, .bool Q.disk.dead, Q.mt, a8, a7, .slice cF cp K, .slice cK cq bT] 31);refine(au _ (D.trans (M.mono D.size))).mono ?_;rintro e ao ⟨ds,rfl,⟨z,b8,V,b9⟩,b1⟩;have R:=M.trans (b1.mono M.size);obtain⟨bx,a6⟩:=Hx2 (a1.below R) (D.trans (R.mono D.size));rw[a2.out] at V;obtain⟨cS,cT,rfl,_⟩:=Aw V;have a3:=A0 V;have bK:Hid (z.length=p.vols.length):=b8.trans a2;have bL:=A0 b9;have F:w.heap.size+1<=ao.heap.size:=A8 ai R.size;obtain⟨_,_,_,_,_,_,_,_,c1,_⟩:=bx.ten;clear M b8 V b9 b1 R au a1 D ai ac f0 f1 f2 f3 f4 aP bV bX c6 c5;go_wp2_with fail;clear c1;go_loopw [3,52] (λal n wr=>∃k:Nat,n= .int .i64 (k:Int)/\al= .slice none 0 0/\k<=p.vols.length/\Below ao ao wr) (λ_ n _=>p.vols.length-(intOf n).toNat)
 case atStart=>exact⟨0,rfl,rfl,A7 _,A2 _ _⟩
 case round=>
  generalize wr=C at*;obtain⟨k,rfl,rfl,hk,hb⟩:=hrel;by_cases U:k<p.vols.length
  ·obtain⟨b,off,⟨⟨cs,ci,cc⟩,⟨ct,cj,cg⟩,⟨cu,ck,ch⟩⟩,l,d4,aM,H,I,J,K,bc⟩:=GX (EJ bN (a6.trans (hb.mono (A8 (S2 _) F)))) U;subst l;have ah:=bM.ok p.vols[k] (BA U);have cb:=ah.len;have aj:=λ(g:World) (a:Below C C g)=>KE bc 0 p.vols[k].2.1 (JF ah (E4 _) (E4 _)) g a;have b7:k<z.length:=by rw[bK.out];exact U
   have ca:k<(Jw p).length:=by rw[a2.out];exact U
   obtain⟨c3,rfl,_⟩:=EM a3 (by omega);have c9:=B3 (AM a3 c3 rfl) hb.size;have c2:=(BQ (Ag a3 hb) ((DB Gl z k b7 2 (by omega)).trans (show _=some (sv z[k].2.2) from rfl))).1;have v:C.ownsRow (B+1) 106 2 (sv z[k].2.2) (DX p (p.vols[k].2.2)).length (Af BR (DX p (p.vols[k].2.2))):=by
    have h:=(bL k b7 ca).2.2;have e:(Jw p)[k]=(p.vols[k].1,p.vols[k].2.1,DX p (p.vols[k].2.2)):=by simp[Jw,IM]
    rw[Bx,e] at h;exact Ag h hb
   rw[Sk] at v;generalize z[k].2.2=c4 at*;obtain⟨aL,dk,bP⟩:=c4;dsimp only[sv] at c2 v;generalize p.vols[k]=y at*;obtain⟨cx,cL,i⟩:=y;dsimp only at aM H aj cb v;dsimp only[sv] at I J K;obtain⟨_,_,c8,c7,_⟩:=Aw v;injection c8 with he1 he2 he3;subst he1 he2 he3;have cV:(k:Int)<(p.vols.length:Int):=by omega
   have g1:(0:Int)<=(k:Int):=by omega
   obtain⟨HWalk,ay,cP⟩:=Hx3 aj v (a6.trans (hb.mono (A8 (S2 _) F)));have dd:=A8 F hb.size;have aK:=A0 hb;generalize aU:(i).length=d at*;have av:=A0 aU;clear ah bc aj v hb aU;go_wp2_with fail;have l:=(A2 C.heap.size C).alloc (A1 _) (.cells #[cx, cL, .slice cs ci cc, .slice ct cj cg, .slice cu ck ch] 78);refine(HWalk _ l).mono ?_;rintro e ap ⟨bO,bR,rfl,bp,a9⟩;have af:=Ag ay (l.trans (a9.mono l.size));have aa:=aK.trans ((l.trans (a9.mono l.size)).mono aK.size);obtain⟨t,b3⟩:∃t,0<d->aL=some ⟨t,0,none⟩:=by
    rcases S1 d with h|h
    ·exact⟨0,λd3=>by omega⟩
    ·obtain⟨t,h1,_⟩:=EM af h;exact⟨t,λ_=>h1⟩
   obtain⟨HRow4,ar,ax,aC⟩:=Hx4 af b3 (show ap.ownsRow C.heap.size 113 2 (.slice bO d bR) d (Af Cz (i)) from by have:=Hm bp l.size;rwa [av.out] at this) aa;have dc:=A8 F aa.size;clear l bp a9 af b3 aa c2 aM H I J K ay HWalk c9;go_wp2_with fail;go_loopw [3,9,68] (λal cv n cw=>∃(j f:Nat) (x:Option Addr) (X:Nat),n= .int .i64 (j:Int)/\al= .slice none 0 0/\Hid (j+f=d)/\cv= .slice x f X/\f<=X/\(0<f->x=some ⟨t,j*2,none⟩)/\Below ap ap cw) (λ_ _ n _=>d-(intOf n).toNat)
   case atStart=>exact⟨0,d,aL,bP,rfl,rfl,B2 _,rfl,c7,by simpa using ar.out,A2 _ _⟩
   case round=>
    obtain⟨j,f,x,X,rfl,rfl,S,rfl,d6,a,u⟩:=hrel;have b6:j+f=d:=S.out;by_cases ac:j<d
    ·obtain rfl:=a (by omega);obtain⟨q,rfl,_⟩:=EM ax (by omega);have T:j<(i).length:=by rw[av.out];exact ac
     have b5:j<(DX p (i)).length:=by rw[Sk];exact T
     have W:=Ag ax u;have ak:=(BQ W ((DB DL _ j T 0 (by omega)).trans (show _=some (Value.int .i64 (i)[j].1) from rfl))).1;have bu:=(BQ W ((DB DL _ j T 1 (by omega)).trans (show _=some (Value.int .i64 (i)[j].2) from rfl))).1;have b2:(DX p (i))[j].1=(i)[j].1:=by simp[DX]
     obtain⟨aT,h1,_⟩:=EM HRow4 (by omega);obtain rfl:aT=t:=by have:=ar (by omega);rw[h1] at this;injection this with this;injection this
     subst h1;have ad:=Ag HRow4 u;have b0:=(BQ ad ((DB IC _ j b5 0 (by omega)).trans (show _=some (Value.int .i64 (DX p (i))[j].1) from rfl))).1;rw[b2] at b0;have da:=AM W q rfl;have d5:=AM ad aT rfl;simp only[Hb] at ak b0;generalize (i)[j]=cr at*;obtain⟨pk,dn⟩:=cr;dsimp only at ak bu b0;have g2:(j:Int)<(d:Int):=by omega
     have cX:(0:Int)<=(j:Int):=by omega
     have d0:decide ((0:Int)<(f:Int))=true:=Hc (by omega);have d1:(0:Int)<(f:Int):=by omega
     have d2:decide (0<f)=true:=Hc (by omega);have aq:=A0 u;clear T b5 W b2 ad a b6 u;go_wp2_with fail;go_quiet (fail)
     clear ak bu b0;go_wp2_with fail;refine⟨⟨j+1,f-1,_,X-1,by go_num,rfl,(show j+1+(f-1)=d by have:=S.out;omega),rfl,by omega,λh=>?_,(aq.alloc aq.size _).trans ⟨rfl,rfl,rfl,A1 _,λ_ _=>rfl⟩⟩,by have:=S.out;simp[intOf];omega⟩;rw[A3 (by omega),show(j+1)*2=j*2+2 by omega]
    ·obtain rfl:j=d:=by omega
     have hd:decide ((j:Int)<(j:Int))=false:=A6 (by omega);have Y:=A0 (aC.trans (u.mono (A8 aC.size (A1 _))));clear u a S b6;go_wp2_with fail;exact⟨⟨k+1,by go_num,rfl,by omega,Y⟩,by simp[intOf];omega⟩
  ·obtain rfl:k=p.vols.length:=by omega
   have hd:decide ((p.vols.length:Int)<(p.vols.length:Int))=false:=A6 (by omega);have Y:=A0 (a6.trans (hb.mono (A8 (S2 _) F)));clear hb;go_wp2_with fail;go_ret;exact⟨rfl,Y⟩
theorem oM(X:Nat->Prop)(a:Option Addr)(c:Nat)(p:Pl)(b:Nat)(w:World)(hb:AP X w b p)
 (hf:∀f d g i h,AH w f d g i h p->Calls prog 224 #[AO f d g i h p] w λe w'=>e= .returned (.slice none 0 0)/\Below w w w'):
 Calls prog 148 #[.pointer (some ⟨b,0,none⟩), .slice a 0 c] w λe w'=>e= .returned (.string ⟨#[99,108,101,97,110]⟩)/\Below w w w':=by
 obtain⟨f,d,g,i,h,k,m⟩:=hb;have l:=hf f d g i h (m w (AW _ _));obtain⟨i0,i1,i2,i3,i4,i5,q,r,s,t,o⟩:=k.eleven;clear k m hf;go_enter func148,ntmps148;go_wp2_with fail;refine l.mono ?_;rintro e u ⟨rfl,j⟩;have n:=A0 j;clear l j i0 i1 i2 i3 i4 i5 q r s t o;go_wp2_with fail;refine A5 (v:= .string ⟨#[99,108,101,97,110]⟩) (by simp[results,results148,go_sem]) rfl ?_;exact⟨rfl,n⟩
abbrev Sl(b:Nat):List EH:=[(⟨#[102,111,114,109,97,116]⟩, .func (.func 145) #[.pointer (some ⟨b,0,none⟩)] #[]),(⟨#[111,112,101,110]⟩, .func (.func 146) #[.pointer (some ⟨b,0,none⟩)] #[]),(⟨#[97,114,109]⟩, .func (.func 147) #[.pointer (some ⟨b,0,none⟩)] #[]),(⟨#[99,104,101,99,107]⟩, .func (.func 148) #[.pointer (some ⟨b,0,none⟩)] #[]),(⟨#[114,101,112,111,114,116]⟩, .func (.func 149) #[.pointer (some ⟨b,0,none⟩)] #[])]
def Pg(d:ByteArray)(l:List ByteArray):Prop:=∀b,Calls prog 144 #[.string d] b λe w'=>∃a c,e= .returned (.slice a l.length c)/\w'.ownsRow b.heap.size 9 1 (.slice a l.length c) l.length (l.map Value.string)/\Below b b w'
theorem Ih{s:ByteArray}{all:List ByteArray}(hp:El s all)(b:s.size<=1000000)(a:all.length<=1000000):Pg s (C9 all):=λc=>Yq s all c hp b a
theorem oN{e:World}{base g L c:Nat}{m:ByteArray}{args:List ByteArray}(h:e.ownsRow base 9 1 (.slice (some ⟨g,0,none⟩) L c) L ((m::args).map Value.string))(f:args.length+1=L):
 ∀a b,(c=1/\a=some ⟨g,0,none⟩/\b=0)\/(a=some ⟨g,1,none⟩/\b=c-1)->Ef e (.slice a args.length b) args:=by
 subst f;obtain⟨_,_,d,n,_⟩:=Aw h;injection d with _ _ d;subst d;have l:=AM h g rfl;rintro a b (⟨rfl,rfl,rfl⟩|⟨rfl,rfl⟩)
 ·obtain rfl:args=[]:=FA.1 (by omega);exact⟨_,_,rfl,by simp,nofun,Or.inl rfl⟩
 ·refine⟨_,_,rfl,by omega,nofun,Or.inr ⟨g,1,rfl,l,λi k j o=>?_⟩⟩;obtain rfl:j=0:=by omega
  have:=(BQ h (i:=i+1) (v:= .string args[i]) (by simp[k])).1;rw[show 1+(i*1+0)=i+1 by omega];simpa using this
theorem oO:∀a,(zeroValue 223).run prog a= .ok .nilFunc a:=λa=>by
 have c:(prog.info? 223).map (λi=>(i.zero,i.size,i.bytes))=some (some .nilFunc,1,8):=by kernel_rfl
 obtain⟨i,b,d,_,_⟩:=BW c;simp[zeroValue,run_typeInfo a b,d]
theorem oP(o j S:ByteArray)(args:List ByteArray)(b:Nat)(Q:World->Prop)(w:World)(z:Pg o (j::args))(y:Gp (Sl b) j=none)(a6:S.size<=1000)
 (v:∀p,Below w w p->Calls prog 150 #[.pointer (some ⟨b,0,none⟩), .string o] p λe w'=>e= .returned (.string S)/\Q w'/\Ac p w' (λk=>k=b)):
 Calls prog 66 #[.pointer (some ⟨b,0,none⟩), .string o] w λe w'=>e= .returned (.string (S++⟨#[10]⟩))/\Q w'/\Ac w w' (λk=>k=b):=by
 have a9:= @run_makeMap prog;have A:=z w;obtain⟨E,T⟩:=Hx2 v y;clear z v y;go_enter func66,ntmps66;go_wp2_with fail;refine A.mono ?_;rintro e h ⟨a,c,rfl,i,m⟩;simp only[BV] at i⊢;obtain⟨g,rfl,f⟩:=EM i (by omega);obtain⟨_,_,W,a7,_⟩:=Aw i;injection W with he1 he2 he3;subst he1 he3;clear he2;have a8:=AM i g rfl;have u:=m.alloc m.size (.map #[] 0);have s:Dp (h.alloc (.map #[] 0)) h.heap.size []:=⟨#[],0,HE h _,rfl⟩;obtain⟨M,F,U,D⟩:=Hx4 s (AW (h.alloc (.map #[] 0)) (λk=>k=h.heap.size)) (i.alloc (.map #[] 0)) u;have Y:=m.size;generalize r:args.length+1=L at*;have a5:0<L:=by omega
 have Z:=A0 r;clear A i m r s u;go_wp2_with (first
  |(change wpList _ _ _ ({dst:=none,op:=Op.insert _ _ (Operand.const (Value.string ⟨#[102,111,114,109,97,116]⟩)) _,type:=_,pos:=_,after:=_,guard:=_}::_) _ _
    refine DJ rfl 224 223 _ _ _ rfl underlying224 h.heap.size _ ⟨#[102,111,114,109,97,116]⟩ (.func (.func 145) #[.pointer (some ⟨b,0,none⟩)] #[]) rfl rfl rfl M rfl ?_;intro a1 d f;obtain⟨N,G⟩:=Hx2 d (F.trans f);clear d f)
  |(change wpList _ _ _ ({dst:=none,op:=Op.insert _ _ (Operand.const (Value.string ⟨#[111,112,101,110]⟩)) _,type:=_,pos:=_,after:=_,guard:=_}::_) _ _
    refine DJ rfl 224 223 _ _ _ rfl underlying224 h.heap.size _ ⟨#[111,112,101,110]⟩ (.func (.func 146) #[.pointer (some ⟨b,0,none⟩)] #[]) rfl rfl rfl N rfl ?_;intro a2 d f;obtain⟨O,H⟩:=Hx2 d (G.trans f);clear d f)
  |(change wpList _ _ _ ({dst:=none,op:=Op.insert _ _ (Operand.const (Value.string ⟨#[97,114,109]⟩)) _,type:=_,pos:=_,after:=_,guard:=_}::_) _ _
    refine DJ rfl 224 223 _ _ _ rfl underlying224 h.heap.size _ ⟨#[97,114,109]⟩ (.func (.func 147) #[.pointer (some ⟨b,0,none⟩)] #[]) rfl rfl rfl O rfl ?_;intro a3 d f;obtain⟨P,I⟩:=Hx2 d (H.trans f);clear d f)
  |(change wpList _ _ _ ({dst:=none,op:=Op.insert _ _ (Operand.const (Value.string ⟨#[99,104,101,99,107]⟩)) _,type:=_,pos:=_,after:=_,guard:=_}::_) _ _
    refine DJ rfl 224 223 _ _ _ rfl underlying224 h.heap.size _ ⟨#[99,104,101,99,107]⟩ (.func (.func 148) #[.pointer (some ⟨b,0,none⟩)] #[]) rfl rfl rfl P rfl ?_;intro a4 d f;obtain⟨R,J⟩:=Hx2 d (I.trans f);clear d f)
  |(change wpList _ _ _ ({dst:=none,op:=Op.insert _ _ (Operand.const (Value.string ⟨#[114,101,112,111,114,116]⟩)) _,type:=_,pos:=_,after:=_,guard:=_}::_) _ _
    refine DJ rfl 224 223 _ _ _ rfl underlying224 h.heap.size _ ⟨#[114,101,112,111,114,116]⟩ (.func (.func 149) #[.pointer (some ⟨b,0,none⟩)] #[]) rfl rfl rfl R rfl ?_;intro l d f;have a0:=A0 d;have n:=J.trans f;have i:=n.owns U (λk hk e=>by have:g=k:=L9 hk;omega);have c0:l.cell? ⟨g,0,none⟩=some (.string j):=(BQ i (show((j::args).map Value.string)[0]?=_ from rfl)).1;have X:=nI underlying224 oO l h.heap.size _ j d T;have K:=A0 n;clear d f n i))
 have q:Below w w l:=D.trans (K.below (B:=w.heap.size) (A8 Y (by simp)) (λk e=>by omega));refine(E l q).mono ?_;rintro e aa ⟨rfl,t,x⟩;obtain⟨V,C⟩:=Hx2 t (((Ai q).mono λ_ _ e=>e.elim).trans x);clear t x c0 X;go_wp2_with fail;go_ret;exact⟨rfl,V,C⟩
theorem Sm(F:Nat)(ab:∀args w,(callFunc F args).run prog w= .ok (.enter F args) w)(D j S:ByteArray)(args:List ByteArray)(b:Nat)(Q:World->Prop)(w:World)(A:Pg D (j::args))(z:Gp (Sl b) j=some (.func (.func F) #[.pointer (some ⟨b,0,none⟩)] #[]))(hS:S.size<=1000)
 (hcall:∀n a c,Below w w n->Ef n (.slice a args.length c) args->Calls prog F #[.pointer (some ⟨b,0,none⟩), .slice a args.length c] n λe w'=>e= .returned (.string S)/\Q w'/\Ac n w' (λk=>k=b)):
 Calls prog 66 #[.pointer (some ⟨b,0,none⟩), .string D] w λe w'=>e= .returned (.string (S++⟨#[10]⟩))/\Q w'/\Ac w w' (λk=>k=b):=by
 have aa:= @run_makeMap prog;have C:=A w;obtain⟨H,V⟩:=Hx2 hcall z;clear A hcall z;go_enter func66,ntmps66;go_wp2_with fail;refine C.mono ?_;rintro e h ⟨a,c,rfl,i,m⟩;simp only[BV] at i⊢;obtain⟨g,rfl,f⟩:=EM i (by omega);obtain⟨_,_,Y,a8,_⟩:=Aw i;injection Y with he1 he2 he3;subst he1 he3;clear he2;have a9:=AM i g rfl;have x:=m.alloc m.size (.map #[] 0);have u:Dp (h.alloc (.map #[] 0)) h.heap.size []:=⟨#[],0,HE h _,rfl⟩;obtain⟨O,I,r,G⟩:=Hx4 u (AW (h.alloc (.map #[] 0)) (λk=>k=h.heap.size)) (i.alloc (.map #[] 0)) x;have a1:=m.size;generalize t:args.length+1=L at*;have a7:0<L:=by omega
 have q:=A0 t;clear C i m t u x;go_wp2_with (first
  |(change wpList _ _ _ ({dst:=none,op:=Op.insert _ _ (Operand.const (Value.string ⟨#[102,111,114,109,97,116]⟩)) _,type:=_,pos:=_,after:=_,guard:=_}::_) _ _
    refine DJ rfl 224 223 _ _ _ rfl underlying224 h.heap.size _ ⟨#[102,111,114,109,97,116]⟩ (.func (.func 145) #[.pointer (some ⟨b,0,none⟩)] #[]) rfl rfl rfl O rfl ?_;intro a3 d f;obtain⟨P,J⟩:=Hx2 d (I.trans f);clear d f)
  |(change wpList _ _ _ ({dst:=none,op:=Op.insert _ _ (Operand.const (Value.string ⟨#[111,112,101,110]⟩)) _,type:=_,pos:=_,after:=_,guard:=_}::_) _ _
    refine DJ rfl 224 223 _ _ _ rfl underlying224 h.heap.size _ ⟨#[111,112,101,110]⟩ (.func (.func 146) #[.pointer (some ⟨b,0,none⟩)] #[]) rfl rfl rfl P rfl ?_;intro a4 d f;obtain⟨R,K⟩:=Hx2 d (J.trans f);clear d f)
  |(change wpList _ _ _ ({dst:=none,op:=Op.insert _ _ (Operand.const (Value.string ⟨#[97,114,109]⟩)) _,type:=_,pos:=_,after:=_,guard:=_}::_) _ _
    refine DJ rfl 224 223 _ _ _ rfl underlying224 h.heap.size _ ⟨#[97,114,109]⟩ (.func (.func 147) #[.pointer (some ⟨b,0,none⟩)] #[]) rfl rfl rfl R rfl ?_;intro a5 d f;obtain⟨T,M⟩:=Hx2 d (K.trans f);clear d f)
  |(change wpList _ _ _ ({dst:=none,op:=Op.insert _ _ (Operand.const (Value.string ⟨#[99,104,101,99,107]⟩)) _,type:=_,pos:=_,after:=_,guard:=_}::_) _ _
    refine DJ rfl 224 223 _ _ _ rfl underlying224 h.heap.size _ ⟨#[99,104,101,99,107]⟩ (.func (.func 148) #[.pointer (some ⟨b,0,none⟩)] #[]) rfl rfl rfl T rfl ?_;intro a6 d f;obtain⟨U,N⟩:=Hx2 d (M.trans f);clear d f)
  |(change wpList _ _ _ ({dst:=none,op:=Op.insert _ _ (Operand.const (Value.string ⟨#[114,101,112,111,114,116]⟩)) _,type:=_,pos:=_,after:=_,guard:=_}::_) _ _
    refine DJ rfl 224 223 _ _ _ rfl underlying224 h.heap.size _ ⟨#[114,101,112,111,114,116]⟩ (.func (.func 149) #[.pointer (some ⟨b,0,none⟩)] #[]) rfl rfl rfl U rfl ?_;intro l d f;have a2:=A0 d;have o:=N.trans f;have i:=o.owns r (λk hk e=>by have:g=k:=L9 hk;omega);have c0:l.cell? ⟨g,0,none⟩=some (.string j):=(BQ i (show((j::args).map Value.string)[0]?=_ from rfl)).1;have Z:=Sb underlying224 l h.heap.size _ j _ d V;have p:=A0 o;clear d f o i))
 all_goals
  have s:Below w w l:=G.trans (p.below (B:=w.heap.size) (A8 a1 (by simp)) (λk e=>by omega));have a0:=oN (p.owns r (λk hk e=>by have:g=k:=L9 hk;omega)) q;clear c0 Z;have X:L-1=args.length:=by have:=q.out;omega
  rw[X];refine(H l _ _ s (a0 _ _ (by first|exact Or.inl ⟨by assumption,rfl,rfl⟩|exact Or.inr ⟨rfl,rfl⟩))).mono ?_;rintro e ac ⟨rfl,v,y⟩;obtain⟨W,E⟩:=Hx2 v (((Ai s).mono λ_ _ e=>e.elim).trans y);clear v y;go_wp2_with fail;go_ret;exact⟨rfl,W,E⟩
def IN(A:List ByteArray)(k n:Nat):List Value:=(A.take k).map Value.string++List.replicate (n-k) (.string ⟨#[]⟩)
theorem oQ{A:List ByteArray}{k:Nat}(hk:k<A.length):(IN A k A.length).set k (.string A[k])=IN A (k+1) A.length:=by
 unfold IN;rw[B1 hk,show A.length-k=A.length-(k+1)+1 by omega,N9,D1,C1];rw[PL _ _ (by rw[B4,B5];omega),B4,B5,HR (by omega),Hr];rfl
theorem oR{w:World}{b k n:Nat}{A:List ByteArray}{T:TypeId}(h:Aa w b (IN A k n) T):DT w b:=by
 refine Lg h λo i j k c hc=>?_;have h0:=List.mem_of_getElem? hc.1;unfold IN at h0;rcases GA.1 h0 with h1|h1
 ·obtain⟨s,_,h2⟩:=E1.1 h1;cases h2
 ·have:=RV h1;cases this
theorem oS(w:World)(n:Nat):Aa (w.alloc (.cells (madeCells #[.string ⟨#[]⟩] n) 9)) w.heap.size (List.replicate n (.string ⟨#[]⟩)) 9:=by
 have:madeCells #[Value.string ⟨#[]⟩] n=(List.replicate n (Value.string ⟨#[]⟩)).toArray:=Array.ext' (by rw[toList_madeCells_one]);rw[this];exact Aa.new w _ _
theorem oU(L A:List ByteArray)(v:Value)(w:World)(G:Ef w v L)(y:A.length=L.length)(hl:L.length<=100)(C:Nat->World->Prop)
 (h0:∀a,Below w w a->Lm a w.heap.size->C 0 a)(S:∀k a o,C k a->Below a a o->C k o)(N:∀k a o,C k a->Ac a o (λb=>b=w.heap.size+1)->C k o)
 (Y:∀k (hk:k<L.length) (ai:k<A.length) a,C k a->Below w w a->(w+1<a.heap.size/\¬BP a (w+1)/\DT a (w+1))->Calls prog 66 #[.pointer (some ⟨w,0,none⟩), .string L[k]] a λe w'=>e= .returned (.string A[k])/\C (k+1) w'/\Ac a w' (λb=>b=w.heap.size)):
 Calls prog 29 #[v] w λe w'=>e= .returned (.slice (some ⟨w+1,0,none⟩) A.length A.length)/\Aa w' (w+1) (A.map Value.string) 9/\Below w w w':=by
 have O:(prog.info? 9).map (λi=>(i.zero,i.size,i.bytes))=some (some (.string ⟨#[]⟩),1,16):=by kernel_rfl
 have T:=λag=>run_make_room (P:=prog) 23 9 (.string ⟨#[]⟩) 16 underlying23 O rfl .i64 .i64 A.length (by omega) (by omega) ag;have W:=nG w;obtain⟨a0,c0,rfl⟩:=AK G;have a7:Hid (∀k (h:k<L.length) a,Below w w a->∃b off,a0=some ⟨b,off,none⟩/\a.cell? ⟨b,off+k,none⟩=some (.string L[k])):=λk h a ad=>by
  obtain⟨b,off,h1,h2,_,_,h3⟩:=JW G (λe=>by rw[e] at h;simp at h);exact⟨b,off,h1,(ad.cell (p:=⟨b,off+k,none⟩) h2).trans (h3 k h)⟩
 obtain⟨a8,a1,I,a3,a2⟩:=Hx5 Y h0 S N y;rw[<-y] at hl⊢;clear G Y h0 S N y;go_enter func29,ntmps29;go_wp2_with fail;refine W.mono ?_;rintro e m ⟨rfl,V,X,t⟩;have J:=a1 m t V;have f:=(A2 m.heap.size m).alloc (A1 _) (.cells (madeCells #[.string ⟨#[]⟩] A.length) 9);have d:=oS m A.length;rw[X] at d;obtain⟨x,n,g⟩:=Hx3 (I 0 _ _ J f) (show Aa (m.alloc (.cells (madeCells #[.string ⟨#[]⟩] A.length) 9)) (w+1) (IN A 0 A.length) 9 from d) (t.trans (f.mono t.size));have U:=T m;rw[X] at U;clear W V J f d t T;go_wp2_with fail;go_loopw [4,13] (λaf H wr=>∃k:Nat,H= .int .i64 (k:Int)/\k<=A.length/\af= .slice (some ⟨w+1,0,none⟩) k A.length/\Aa wr (w+1) (IN A k A.length) 9/\C k wr/\Below w w wr) (λ_ H _=>A.length-(intOf H).toNat)
 case atStart=>exact⟨0,rfl,A7 _,rfl,n,x,g⟩
 case round=>
  clear n x g U;generalize wr=Z at*;obtain⟨k,rfl,hk,rfl,d,s,q⟩:=hrel;obtain⟨n,x,g⟩:=Hx3 d s q;by_cases F:k<A.length
  ·have R:k<L.length:=by rw[<-a2.out];exact F
   obtain⟨b,off,rfl,c1⟩:=a7 k R Z q;have hd:=a8 k R F Z s q ⟨d.lt,Cw d (by decide),oR d⟩;have ah:(k:Int)<(A.length:Int):=by omega
   have g1:(0:Int)<=(k:Int):=by omega
   generalize L[k]=aj at*;have a9:=A0 (oQ F);generalize A[k]=c at*;clear d s q;go_wp2_with fail;refine hd.mono ?_;rintro e l ⟨rfl,K,u⟩;have f:=(A2 l.heap.size l).alloc (A1 _) (.cells #[.string c] 9);have r:=(u.blk n (by omega)).below f;have z:=(g.trans (u.below (B:=w.heap.size) g.size (λk e=>by omega))).trans (f.mono (A8 g.size u.size));have M:=I _ _ _ K f;have ac:=A0 (Src.ofSlice (P:=prog) (size:=1) (l.alloc (.cells #[.string c] 9)) underlying23 ⟨l,0,none⟩ 1 1 [.string c] rfl (Hx _ _ _) (by simp[Value.oneCell']));have aa:Hid (∀j,j<([Value.string c]:List Value).length->((l.alloc (.cells #[.string c] 9)).cell? ⟨w+1,0+k+j,none⟩).isSome=true):=λj Q=>by
    rw[r.cell (0+k+j) (Bl (by unfold IN;rw[A9,B4,B5,C6];simp at Q;omega))];rfl
   have ab:Hid (∀j,j<([Value.string c]:List Value).length->(l.alloc (.cells #[.string c] 9)).frozen? ⟨w+1,0+k+j,none⟩=false):=λj Q=>r.free _;have E:=Ad (l.alloc (.cells #[.string c] 9)) (w+1) k (.string c);have D:=r.set k (.string c);rw[a9.out] at D;obtain⟨a6,a5,a4⟩:=Hx3 D (a3 _ _ _ M E) (z.trans (E.below (B:=w.heap.size) z.size (λk e=>by omega)));clear hd K u f r z M E D;go_wp2_with (at_builtin;refine wpList_append_room1 _ rfl (.tmp 17) (.tmp 21) 23 23 rfl 9 (.string ⟨#[]⟩) 16 underlying23 O (w+1) 0 k A.length rfl _ rfl 1 [.string c] ac (by omega) aa ab ?_;simp only[World.setCells,B2])
   exact⟨⟨k+1,by go_num,by omega,rfl,a6,a5,a4⟩,by simp[intOf];omega⟩
  ·obtain rfl:k=A.length:=by omega
   have hd:decide ((A.length:Int)<(A.length:Int))=false:=A6 (by omega);clear d s q;go_wp2_with fail;go_ret;refine⟨rfl,?_,g⟩;have:=n.out;unfold IN at this;rw[D4,Hr,W5,E5] at this;exact this
theorem oV(u v:Value)(a:List ByteArray)(w:World)(f:Ef w u a)(g:Ef w v a)(h0:a≠[])(hl:a.length<=100):
 Calls prog 30 #[u,v] w λe w'=>e= .returned (.bool true)/\∃n,w'=w.drewN n:=by
 obtain⟨a0,c0,rfl⟩:=AK f;obtain⟨a1,c1,rfl⟩:=AK g;obtain⟨b,o,rfl,hb,_,_,c⟩:=JW f h0;obtain⟨l,o',rfl,r,_,_,d⟩:=JW g h0;have j:((a.length:Int)!=(a.length:Int))=false:=by simp
 clear f g;go_enter func30,ntmps30;go_wp2
 clear j;go_loopw [5] (λi wr=>∃k:Nat,k<=a.length/\i= .int .i64 k/\∃n,wr=w.drewN n) (λi _=>a.length-(intOf i).toNat)
 case atStart=>exact⟨0,A7 _,rfl,0,rfl⟩
 case round=>
  obtain⟨k,hk,rfl,n,rfl⟩:=hrel;by_cases h:k<a.length
  ·have m:=c k h;have p:=d k h;clear c d;generalize a[k]=x at*;have q:(k:Int)<(a.length:Int):=by omega
   have g2:(0:Int)<=(k:Int):=by omega
   have s:(x.toList !=x.toList)=false:=by simp
   go_wp2
   go_quiet (fail)
   go_wp2
   go_roundw
   case rel=>exact⟨k+1,by omega,by go_num,_,rfl⟩
   case measure=>simp[intOf];omega
  ·obtain rfl:k=a.length:=by omega
   have hd:decide ((a.length:Int)<(a.length:Int))=false:=A6 (by omega);clear c d;go_wp2
   go_ret;exact⟨rfl,n,rfl⟩
theorem oW(T:ByteArray):(Co T).extract 3 (Co T).size=ET (Bg T):=by
 unfold Co;exact ByteArray.extract_append_eq_right rfl (by rw[M3])
theorem Yw(s T:ByteArray)(b:Bool)(w:World)(h:T.size<=100000)(hf:Calls prog 67 #[.string s] w λe w'=>e= .returned (.tuple #[.string T, .bool b])/\Below w w w'):
 Calls prog 31 #[.string s] w λe w'=>e= .returned (.string (ET (Bg T)))/\Below w w w':=by
 have hs:=λi=>nw T i h;have g:=A0 (oW T);have h3:(3:Int)<=((Co T).size:Int):=by
  have:(Co T).size=3+(ET (Bg T)).size:=M3;omega
 generalize Co T=S at*;go_enter func31,ntmps31;go_wp2_with fail;refine hf.mono ?_;rintro e j ⟨rfl,c⟩;have a:=A0 c;clear hf c;go_wp2_with fail;refine(hs _).mono ?_;rintro e k ⟨rfl,d⟩;have f:=A0 (a.trans (d.mono a.size));clear hs d;go_wp2_with fail;refine A5 (v:= .string (S.extract 3 S.size)) (by simp[results,results31,go_sem]) rfl ?_;exact⟨by rw[g.out],f⟩
theorem Kw(X:Nat->Prop)(b:Nat)(w:World)(l:b≠6)(D:X b)(c f S T:ByteArray)(args:List ByteArray)(x:Rq)(p q:Pl)(G:Pg c (f::args))(E:Gp (Sl b) f=none)(B:S.size<=1000)(A:AP X w b p)(j:BC w)(C:Cx w X)
 (F:∀a,Calls prog 226 #[.string c] a λe w'=>e= .returned (.tuple #[Cy x, .bool true])/\Below a a w')
 (hdo:∀o m s y u a R,Cx a R->AH a o m s y u p->Calls prog 17 #[AO o m s y u p,Cy x] a λe w'=>∃r n t z v,e= .returned (.tuple #[AO r n t z v q,De 0 T 0])/\(∀i,Ac w' i R->AH i r n t z v q)/\Below a a w')
 (hsh:∀a,BC a->Calls prog 227 #[x.op,De 0 T 0] a λe w'=>e= .returned (.string S)/\Below a a w'):
 Calls prog 66 #[.pointer (some ⟨b,0,none⟩), .string c] w λe w'=>e= .returned (.string (S++⟨#[10]⟩))/\(AP X w' b q/\BC w')/\Ac w w' (λk=>k=b):=
 oP c f S args b (λg=>AP X g b q/\BC g) w G E B λa d=>
  (oD X c S T x p q b a (A.below d) (Ls C d) D (Fv j d) l F hdo hsh).mono λ_ _ h=>⟨h.1,⟨h.2.1,Ln (Fv j d) h.2.2 (λe=>l e.symm)⟩,h.2.2⟩
theorem Sn{w:World}{b:Nat}{L:List ByteArray}{T:TypeId}(h:Aa w b (L.map Value.string) T):Ef w (.slice (some ⟨b,0,none⟩) L.length L.length) L:=
 ⟨_,_,rfl,A1 _,nofun,Or.inr ⟨b,0,rfl,h.lt,λi a j c=>by
   obtain rfl:j=0:=by omega
   rw[show 0+(i*1+0)=i by omega];have:=h.cell i (v:= .string L[i]) (by simp[a]);simpa using this⟩⟩
def Jy:List ByteArray:=[⟨#[102,111,114,109,97,116,32,50,32,52]⟩,⟨#[99,114,101,97,116,101,32,49,32,51]⟩,⟨#[119,114,105,116,101,32,49,32,50,32,97]⟩,⟨#[102,108,117,115,104]⟩,⟨#[119,114,105,116,101,32,49,32,50,32,114,53]⟩,⟨#[115,110,97,112,32,49,32,50]⟩,⟨#[114,101,97,100,32,50,32,50]⟩,⟨#[111,112,101,110]⟩,⟨#[114,101,97,100,32,49,32,50]⟩,⟨#[99,104,101,99,107]⟩]
def Kx:ByteArray:=⟨#[111,107]⟩++⟨#[10]⟩
def Ky(b a:ByteArray):List ByteArray:=[Kx,Kx,Kx,Kx,Kx,Kx,b++⟨#[10]⟩,⟨#[111,107,32,50]⟩++⟨#[10]⟩,a++⟨#[10]⟩,⟨#[99,108,101,97,110]⟩++⟨#[10]⟩]
theorem Lt:DV.size=256/\DW.size=256:=⟨by rw[GI,C6],by rw[GI,m8]⟩
theorem Kz(T:ByteArray):(Co T).size=11:=by
 have a:(ET (Bg T)).size=8:=by show(CT 8 (Bg T) []).toArray.size=8;rw[D2,ML];rfl
 have:(Co T).size=3+(ET (Bg T)).size:=M3;omega
def pE(b:Nat)(e c f d:Pl)(k:Nat)(a:World):Prop:=BC a/\match k with
 |0=>Lm a b
 |1=>AP (λi=>i=b\/i=b+1) a b (BE 2 4)
 |2=>AP (λi=>i=b\/i=b+1) a b e
 |3=>AP (λi=>i=b\/i=b+1) a b c
 |4=>AP (λi=>i=b\/i=b+1) a b (AF c)
 |5=>AP (λi=>i=b\/i=b+1) a b f
 |6=>AP (λi=>i=b\/i=b+1) a b d
 |7=>AP (λi=>i=b\/i=b+1) a b d
 |8=>AP (λi=>i=b\/i=b+1) a b (C5 (Cf d.disk) 4 2 1 c.vols 2)
 |9=>AP (λi=>i=b\/i=b+1) a b (C5 (Cf d.disk) 4 2 1 c.vols 2)
 |_=>True
theorem AP.app{b:Nat}{a c:World}{p:Pl}(h:AP (λi=>i=b\/i=b+1) a b p)(d:Ac a c (λi=>i=b+1)):AP (λi=>i=b\/i=b+1) c b p:=by
 obtain⟨k,j,l,n,m,h1,h2⟩:=h;exact⟨k,j,l,n,m,d.blk h1 (by omega),λf g=>h2 f ((d.mono λ_ _ e=>Or.inr e).trans g)⟩
theorem pE.low{b k:Nat}{d e f g:Pl}{a c:World}(h:pE b d e f g k a)(hb:Below a a c):pE b d e f g k c:=by
 refine⟨Fv h.1 hb,?_⟩;have h2:=h.2
 match k,h2 with
 |0,h2=>exact Aa.below h2 hb
 |1,h2=>exact AP.below h2 hb
 |2,h2=>exact AP.below h2 hb
 |3,h2=>exact AP.below h2 hb
 |4,h2=>exact AP.below h2 hb
 |5,h2=>exact AP.below h2 hb
 |6,h2=>exact AP.below h2 hb
 |7,h2=>exact AP.below h2 hb
 |8,h2=>exact AP.below h2 hb
 |9,h2=>exact AP.below h2 hb
 |k+10,_=>exact trivial
theorem pE.app{b k:Nat}{e f g j:Pl}{c d:World}(h:pE b e f g j k c)(h6:6<=b)(a:Ac c d (λi=>i=b+1)):pE b e f g j k d:=by
 refine⟨Ln h.1 a (by omega),?_⟩;have h2:=h.2
 match k,h2 with
 |0,h2=>exact a.blk h2 (by omega)
 |1,h2=>exact AP.app h2 a
 |2,h2=>exact AP.app h2 a
 |3,h2=>exact AP.app h2 a
 |4,h2=>exact AP.app h2 a
 |5,h2=>exact AP.app h2 a
 |6,h2=>exact AP.app h2 a
 |7,h2=>exact AP.app h2 a
 |8,h2=>exact AP.app h2 a
 |9,h2=>exact AP.app h2 a
 |k+10,_=>exact trivial
structure Yx(p1 p2 p4 p5:Pl):Prop where
 i0:C7 (BE 2 4)
 d1:Cg (BE 2 4) ⟨0,1,0,0,3,⟨#[]⟩⟩ p1 ⟨#[]⟩
 i1:C7 p1
 d2:Cg p1 ⟨4,1,0,2,0,DV⟩ p2 ⟨#[]⟩
 i2:C7 p2
 gen:p2.gen=1
 mt:p2.mt=4
 img4:(AG p2.vols).length≤4
 i3:C7 (AF p2)
 d4:Cg (AF p2) ⟨4,1,0,2,0,DW⟩ p4 ⟨#[]⟩
 i4:C7 p4
 d5:Cg p4 ⟨6,1,2,0,0,⟨#[]⟩⟩ p5 ⟨#[]⟩
 i5:C7 p5
 d6:Cg p5 ⟨3,2,0,2,0,⟨#[]⟩⟩ p5 DW
 m5:p5.mt=4
 opn:Pa (Cf p5.disk) 4 2 2 1 p2.vols
 op:C7 (C5 (Cf p5.disk) 4 2 1 p2.vols 2)∧Cg (C5 (Cf p5.disk) 4 2 1 p2.vols 2) ⟨3,1,0,2,0,⟨#[]⟩⟩ (C5 (Cf p5.disk) 4 2 1 p2.vols 2) DV
theorem oY(w:World):∃c a d b,Yx c a d b:=by
 obtain⟨c,a,d,b,i0,d1,i1,d2,i2,⟨g2,_,m2,j,t2⟩,i3,d4,i4,d5,i5,d6,m5,⟨hk,g,i⟩,f⟩:=mN w DV DW Lt.1 Lt.2;have k:(b.disk.kept.length:Int)=2+2*4+16*2:=by
  have h:=i3.ok.len;rw[hk];have e:(AF a).tabs.length=2:=by show(a.tabs.map Br).length=2;rw[B4,t2]
  rw[e,show(AF a).mt=a.mt from rfl,m2] at h;exact h
 refine⟨c,a,d,b,i0,d1,i1,d2,i2,g2,m2,j,i3,d4,i4,d5,i5,d6,m5,⟨X6 i5.ok.disk,by show(0:Nat)<=_;omega,rfl,rfl,by show b.disk.kept.length=_;omega,by omega,by omega,by omega,by omega,g,i,i2.ok.vols,f.1.ok⟩,f⟩
theorem oZ{z v A x:Pl}(h:Yx z v A x)(b:Nat)(g:World)(r:b≠6)(k:Nat)(hk:k<Jy.length)(C:k<(Ky (Co DW) (Co DV)).length)(f:pE b z v A x k g)(B:b+1<g.heap.size/\¬BP g (b+1)/\DT g (b+1)):
 Calls prog 66 #[.pointer (some ⟨b,0,none⟩), .string Jy[k]] g λe w'=>e= .returned (.string (Ky (Co DW) (Co DV))[k])/\pE b z v A x (k+1) w'/\Ac g w' (λi=>i=b):=by
 have u:(b<g.heap.size/\¬BP g b/\DT g b)->Cx g (λi=>i=b\/i=b+1):=by
  rintro hb i (rfl|rfl)
  ·exact hb
  ·exact B
 have D:k<10:=hk;rcases(show k=0\/k=1\/k=2\/k=3\/k=4\/k=5\/k=6\/k=7\/k=8\/k=9 by omega) with rfl|rfl|rfl|rfl|rfl|rfl|rfl|rfl|rfl|rfl
 ·exact(Sm _ (DQ func145 (by kernel_rfl) rfl) ⟨#[102,111,114,109,97,116,32,50,32,52]⟩ ⟨#[102,111,114,109,97,116]⟩ ⟨#[111,107]⟩ [⟨#[50]⟩,⟨#[52]⟩] b (λw=>AP (λi=>i=b\/i=b+1) w b (BE 2 4)/\BC w) g (Ih (s:=⟨#[102,111,114,109,97,116,32,50,32,52]⟩) (all:=[⟨#[102,111,114,109,97,116]⟩,⟨#[50]⟩,⟨#[52]⟩]) (.more 6 (by decide) (.more 1 (by decide) (.last (by decide)))) (by decide) (by decide)) rfl (by decide) (λd a c j hs=>(oC (λi=>i=b\/i=b+1) _ b d hs (Aa.below f.2 j) (λk hk=>by have:=j.size;have:=B.1;have:=hk;omega) (Or.inl rfl)).mono λ_ _ h=>⟨h.1,⟨h.2.1,Ln (Fv f.1 j) h.2.2 (λe=>r e.symm)⟩,h.2.2⟩)).mono λ_ _ h=>⟨h.1,⟨h.2.1.2,h.2.1.1⟩,h.2.2⟩
 ·exact(Kw _ _ g r (Or.inl rfl) ⟨#[99,114,101,97,116,101,32,49,32,51]⟩ ⟨#[99,114,101,97,116,101]⟩ ⟨#[111,107]⟩ ⟨#[]⟩ [⟨#[49]⟩,⟨#[51]⟩] ⟨0,1,0,0,3,⟨#[]⟩⟩ _ _ (Ih (s:=⟨#[99,114,101,97,116,101,32,49,32,51]⟩) (all:=[⟨#[99,114,101,97,116,101]⟩,⟨#[49]⟩,⟨#[51]⟩]) (.more 6 (by decide) (.more 1 (by decide) (.last (by decide)))) (by decide) (by decide)) rfl (by first|decide|(rw[Kz];omega)) f.2 f.1 (u f.2.fit) (λd=>n8 d) (λm l n p o d R q hp=>II m l n p o _ _ _ _ R d q hp h.i0.ok h.i0.dead h.i0.fuse h.d1) (λd j=>MM 0 d (by omega) (by omega))).mono λ_ _ h=>⟨h.1,⟨h.2.1.2,h.2.1.1⟩,h.2.2⟩
 ·exact(Kw _ _ g r (Or.inl rfl) ⟨#[119,114,105,116,101,32,49,32,50,32,97]⟩ ⟨#[119,114,105,116,101]⟩ ⟨#[111,107]⟩ ⟨#[]⟩ [⟨#[49]⟩,⟨#[50]⟩,⟨#[97]⟩] ⟨4,1,0,2,0,DV⟩ _ _ (Ih (s:=⟨#[119,114,105,116,101,32,49,32,50,32,97]⟩) (all:=[⟨#[119,114,105,116,101]⟩,⟨#[49]⟩,⟨#[50]⟩,⟨#[97]⟩]) (.more 5 (by decide) (.more 1 (by decide) (.more 1 (by decide) (.last (by decide))))) (by decide) (by decide)) rfl (by first|decide|(rw[Kz];omega)) f.2 f.1 (u f.2.fit) (λd=>od d) (λm l n p o d R q hp=>II m l n p o _ _ _ _ R d q hp h.i1.ok h.i1.dead h.i1.fuse h.d2) (λd j=>MM 4 d (by omega) (by omega))).mono λ_ _ h=>⟨h.1,⟨h.2.1.2,h.2.1.1⟩,h.2.2⟩
 ·exact(Kw _ _ g r (Or.inl rfl) ⟨#[102,108,117,115,104]⟩ ⟨#[102,108,117,115,104]⟩ ⟨#[111,107]⟩ ⟨#[]⟩ [] ⟨7,0,0,0,0,⟨#[]⟩⟩ _ _ (Ih (s:=⟨#[102,108,117,115,104]⟩) (all:=[⟨#[102,108,117,115,104]⟩]) (.last (by decide)) (by decide) (by decide)) rfl (by first|decide|(rw[Kz];omega)) f.2 f.1 (u f.2.fit) (λd=>ol d) (λm l n p o d R q hp=>m6 m l n p o _ _ _ R d q hp h.i2.ok h.i2.dead h.i2.fuse rfl (by rw[h.gen];omega) (by rw[h.mt];exact_mod_cast h.img4) rfl) (λd j=>MM 7 d (by omega) (by omega))).mono λ_ _ h=>⟨h.1,⟨h.2.1.2,h.2.1.1⟩,h.2.2⟩
 ·exact(Kw _ _ g r (Or.inl rfl) ⟨#[119,114,105,116,101,32,49,32,50,32,114,53]⟩ ⟨#[119,114,105,116,101]⟩ ⟨#[111,107]⟩ ⟨#[]⟩ [⟨#[49]⟩,⟨#[50]⟩,⟨#[114,53]⟩] ⟨4,1,0,2,0,DW⟩ _ _ (Ih (s:=⟨#[119,114,105,116,101,32,49,32,50,32,114,53]⟩) (all:=[⟨#[119,114,105,116,101]⟩,⟨#[49]⟩,⟨#[50]⟩,⟨#[114,53]⟩]) (.more 5 (by decide) (.more 1 (by decide) (.more 1 (by decide) (.last (by decide))))) (by decide) (by decide)) rfl (by first|decide|(rw[Kz];omega)) f.2 f.1 (u f.2.fit) (λd=>og d) (λm l n p o d R q hp=>II m l n p o _ _ _ _ R d q hp h.i3.ok h.i3.dead h.i3.fuse h.d4) (λd j=>MM 4 d (by omega) (by omega))).mono λ_ _ h=>⟨h.1,⟨h.2.1.2,h.2.1.1⟩,h.2.2⟩
 ·exact(Kw _ _ g r (Or.inl rfl) ⟨#[115,110,97,112,32,49,32,50]⟩ ⟨#[115,110,97,112]⟩ ⟨#[111,107]⟩ ⟨#[]⟩ [⟨#[49]⟩,⟨#[50]⟩] ⟨6,1,2,0,0,⟨#[]⟩⟩ _ _ (Ih (s:=⟨#[115,110,97,112,32,49,32,50]⟩) (all:=[⟨#[115,110,97,112]⟩,⟨#[49]⟩,⟨#[50]⟩]) (.more 4 (by decide) (.more 1 (by decide) (.last (by decide)))) (by decide) (by decide)) rfl (by first|decide|(rw[Kz];omega)) f.2 f.1 (u f.2.fit) (λd=>oo d) (λm l n p o d R q hp=>II m l n p o _ _ _ _ R d q hp h.i4.ok h.i4.dead h.i4.fuse h.d5) (λd j=>MM 6 d (by omega) (by omega))).mono λ_ _ h=>⟨h.1,⟨h.2.1.2,h.2.1.1⟩,h.2.2⟩
 ·exact(Kw _ _ g r (Or.inl rfl) ⟨#[114,101,97,100,32,50,32,50]⟩ ⟨#[114,101,97,100]⟩ (Co DW) DW [⟨#[50]⟩,⟨#[50]⟩] ⟨3,2,0,2,0,⟨#[]⟩⟩ _ _ (Ih (s:=⟨#[114,101,97,100,32,50,32,50]⟩) (all:=[⟨#[114,101,97,100]⟩,⟨#[50]⟩,⟨#[50]⟩]) (.more 4 (by decide) (.more 1 (by decide) (.last (by decide)))) (by decide) (by decide)) rfl (by first|decide|(rw[Kz];omega)) f.2 f.1 (u f.2.fit) (λd=>ov d) (λm l n p o d R q hp=>II m l n p o _ _ _ _ R d q hp h.i5.ok h.i5.dead h.i5.fuse h.d6) (λd j=>Yh DW d (by rw[Lt.2];omega) j)).mono λ_ _ h=>⟨h.1,⟨h.2.1.2,h.2.1.1⟩,h.2.2⟩
 ·exact(Sm _ (DQ func146 (by kernel_rfl) rfl) ⟨#[111,112,101,110]⟩ ⟨#[111,112,101,110]⟩ ⟨#[111,107,32,50]⟩ [] b (λw=>AP (λi=>i=b\/i=b+1) w b (C5 (Cf x.disk) 4 2 1 v.vols 2)/\BC w) g (Ih (s:=⟨#[111,112,101,110]⟩) (all:=[⟨#[111,112,101,110]⟩]) (.last (by decide)) (by decide) (by decide)) rfl (by decide) (λd a c j hs=>(oI (λi=>i=b\/i=b+1) a c x v.vols b d (f.2.below j) (Ls (u f.2.fit) j) (Or.inl rfl) h.m5 h.i5.ok.disk h.i5.ok.keep h.opn).mono λ_ _ h=>⟨h.1,⟨h.2.1,Ln (Fv f.1 j) h.2.2 (λe=>r e.symm)⟩,h.2.2⟩)).mono λ_ _ h=>⟨h.1,⟨h.2.1.2,h.2.1.1⟩,h.2.2⟩
 ·obtain⟨y,h5⟩:=f;have t:=h.op;exact(Kw _ _ g r (Or.inl rfl) ⟨#[114,101,97,100,32,49,32,50]⟩ ⟨#[114,101,97,100]⟩ (Co DV) DV [⟨#[49]⟩,⟨#[50]⟩] ⟨3,1,0,2,0,⟨#[]⟩⟩ _ _ (Ih (s:=⟨#[114,101,97,100,32,49,32,50]⟩) (all:=[⟨#[114,101,97,100]⟩,⟨#[49]⟩,⟨#[50]⟩]) (.more 4 (by decide) (.more 1 (by decide) (.last (by decide)))) (by decide) (by decide)) rfl (by rw[Kz];omega) h5 y (u h5.fit) (λd=>ox d) (λm l n p o d R q hp=>II m l n p o _ _ _ _ R d q hp t.1.ok t.1.dead t.1.fuse t.2) (λd j=>Yh DV d (by rw[Lt.1];omega) j)).mono λ_ _ h=>⟨h.1,⟨h.2.1.2,h.2.1.1⟩,h.2.2⟩
 ·obtain⟨y,h5⟩:=f;have t:=h.op;exact(Sm _ (DQ func148 (by kernel_rfl) rfl) ⟨#[99,104,101,99,107]⟩ ⟨#[99,104,101,99,107]⟩ ⟨#[99,108,101,97,110]⟩ [] b BC g (Ih (s:=⟨#[99,104,101,99,107]⟩) (all:=[⟨#[99,104,101,99,107]⟩]) (.last (by decide)) (by decide) (by decide)) rfl (by decide) (λd a c j hs=>(oM _ a c _ b d (h5.below j) (λm l n p o hp=>oK m l n p o _ 4 2 v.vols d hp t.1.ok t.1.dead t.1.read rfl h.opn)).mono λ_ _ h=>⟨h.1,Fv (Fv y j) h.2,(Ai h.2).mono λ_ _ e=>e.elim⟩)).mono λ_ _ h=>⟨h.1,⟨h.2.1,trivial⟩,h.2.2⟩
theorem o7:Kx=⟨#[111,107,10]⟩:=by decide
theorem So(w:World)(o:BC w):Calls prog 8 #[] w λe w'=>e= .returned (.bool true)/\Below w w w':=by
 obtain⟨K,M,N,O,h⟩:=oY w;have h6:=Yu o;have c:=(A2 w.heap.size w).alloc (A1 _) (.cells (Jy.map Value.string).toArray 9);have r:Calls prog 29 #[.slice (some ⟨w,0,none⟩) 10 10] (w.alloc (.cells (Jy.map Value.string).toArray 9)) λe w'=>e= .returned (.slice (some ⟨w+1+1,0,none⟩) 10 10)/\Ef w' (.slice (some ⟨w+1+1,0,none⟩) 10 10) (Ky (Co DW) (Co DV))/\Below w w w':=by
  have hs:=Sn (Aa.new w (Jy.map Value.string) 9);have J:(w.alloc (.cells (Jy.map Value.string).toArray 9)).heap.size=w.heap.size+1:=Bx _ _;refine(oU Jy (Ky (Co DW) (Co DV)) _ _ hs rfl (by decide) (pE (w.alloc (.cells (Jy.map Value.string).toArray 9)).heap.size K M N O) (λg p H=>⟨Fv (Fv o c) p,H⟩) (λk g G d p=>d.low p) (λk g G d s=>d.app (by omega) s) (λk hk I g d _ s=>oZ h _ g (by omega) k hk I d s)).mono ?_;rintro e w' ⟨rfl,A,hb⟩;rw[J] at A hb⊢;refine⟨rfl,Sn (L:=Ky (Co DW) (Co DV)) A,?_⟩;exact c.trans (hb.mono (by omega))
 have u:=λf=>Yw ⟨#[114,53]⟩ DW true f (by rw[Lt.2];omega) (nu f);have t:=λf=>Yw ⟨#[97]⟩ DV true f (by rw[Lt.1];omega) (nv f);obtain⟨b,j⟩:∃m,m=ET (Bg DW):=⟨_,rfl⟩;obtain⟨a,i⟩:∃m,m=ET (Bg DV):=⟨_,rfl⟩;have T:b.size=8:=by rw[j];show(CT 8 (Bg DW) []).toArray.size=8;rw[D2,ML];rfl
 have S:a.size=8:=by rw[i];show(CT 8 (Bg DV) []).toArray.size=8;rw[D2,ML];rfl
 have z:Ky (Co DW) (Co DV)=[⟨#[111,107,10]⟩,⟨#[111,107,10]⟩,⟨#[111,107,10]⟩,⟨#[111,107,10]⟩,⟨#[111,107,10]⟩,⟨#[111,107,10]⟩,⟨#[111,107,32]⟩++b++⟨#[10]⟩,⟨#[111,107,32,50,10]⟩,⟨#[111,107,32]⟩++a++⟨#[10]⟩,⟨#[99,108,101,97,110,10]⟩]:=by
  unfold Ky Co;rw[o7,<-j,<-i];rfl
 rw[<-j] at u;rw[<-i] at t;rw[z] at r;clear j i z h c o;go_enter func8,ntmps8;go_wp2_with fail;refine r.mono ?_;rintro e P ⟨rfl,D,c⟩;obtain⟨F,x⟩:=Hx2 D c;clear r D c;go_wp2_with fail;refine(u _).mono ?_;rintro e Q ⟨rfl,B⟩;have l:=A0 B;clear u B;go_wp2_with fail;refine(t _).mono ?_;rintro e v ⟨rfl,C⟩;have y:=A0 (l.trans (C.mono l.size));clear t C l;go_wp2_with fail;have q:=y.alloc y.size (.cells (([⟨#[111,107,10]⟩,⟨#[111,107,10]⟩,⟨#[111,107,10]⟩,⟨#[111,107,10]⟩,⟨#[111,107,10]⟩,⟨#[111,107,10]⟩,⟨#[111,107,32]⟩++b++⟨#[10]⟩,⟨#[111,107,32,50,10]⟩,⟨#[111,107,32]⟩++a++⟨#[10]⟩,⟨#[99,108,101,97,110,10]⟩]:List ByteArray).map Value.string).toArray 9);refine(oV (.slice (some ⟨w+1+1,0,none⟩) 10 10) (.slice (some ⟨v,0,none⟩) 10 10) [⟨#[111,107,10]⟩,⟨#[111,107,10]⟩,⟨#[111,107,10]⟩,⟨#[111,107,10]⟩,⟨#[111,107,10]⟩,⟨#[111,107,10]⟩,⟨#[111,107,32]⟩++b++⟨#[10]⟩,⟨#[111,107,32,50,10]⟩,⟨#[111,107,32]⟩++a++⟨#[10]⟩,⟨#[99,108,101,97,110,10]⟩] (v.alloc (.cells (([⟨#[111,107,10]⟩,⟨#[111,107,10]⟩,⟨#[111,107,10]⟩,⟨#[111,107,10]⟩,⟨#[111,107,10]⟩,⟨#[111,107,10]⟩,⟨#[111,107,32]⟩++b++⟨#[10]⟩,⟨#[111,107,32,50,10]⟩,⟨#[111,107,32]⟩++a++⟨#[10]⟩,⟨#[99,108,101,97,110,10]⟩]:List ByteArray).map Value.string).toArray 9)) (Aj F q) (Sn (Aa.new v (([⟨#[111,107,10]⟩,⟨#[111,107,10]⟩,⟨#[111,107,10]⟩,⟨#[111,107,10]⟩,⟨#[111,107,10]⟩,⟨#[111,107,10]⟩,⟨#[111,107,32]⟩++b++⟨#[10]⟩,⟨#[111,107,32,50,10]⟩,⟨#[111,107,32]⟩++a++⟨#[10]⟩,⟨#[99,108,101,97,110,10]⟩]:List ByteArray).map Value.string) 9)) (by simp) (by simp)).mono ?_;rintro e R ⟨rfl,n,rfl⟩;have E:=A0 (x.trans (q.mono x.size));clear q;go_wp2_with fail;go_ret;exact⟨rfl,E.trans ⟨rfl,rfl,rfl,A1 _,λ_ _=>rfl⟩⟩
end Go.Proofs.YtmajkjjjfodhlaaGreatDoor
