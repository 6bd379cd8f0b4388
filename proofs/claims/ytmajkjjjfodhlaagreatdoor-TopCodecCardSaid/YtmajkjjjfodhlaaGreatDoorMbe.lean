/- Part Mbe. No condition of its own. -/
import Derived.Test.YtmajkjjjfodhlaaGreatDoorMbd
namespace Go.Proofs.YtmajkjjjfodhlaaGreatDoor
open Go.RowKit Tryz Go.Shelf
set_option linter.all false
set_option maxRecDepth 100000
set_option maxHeartbeats 8000000
section
open Go.RowKit Go.Lib
theorem mH(d:Value)(n b base B:Nat)(l:List (IE))(u:IE)(w:World)(a:w.ownsRow base 84 3 d n (Af Ej l))(m:w.heap[b]?=some (.cells (Ej u).toArray 84 (0,0)))(J:n<=1000000)(v:B<=base)(y:base<=w.heap.size):
 Calls prog 250 #[d, n, .slice (some ⟨b,0,none⟩) 1 1] w λe w'=>
  ∃o,e= .returned o/\w'.ownsRow base 84 3 o (n+1) (Af Ej l++Ej u)/\Below B w w'/\w.grownBy w' d.ownBlock:=by
 obtain⟨i0,z,D,E,F⟩:=BW RW;have C:n=l.length:=(CJ Gl a).2;obtain⟨a0,c0,rfl,I,K⟩:=Aw a;have q:=A0 a;have t:Hid (∀j x,(Ej u)[j]?=some x->w.cell? ((⟨b,0,none⟩:Addr).add j)=some x):=λj x A=>by
  rw[Bo,B2,H6 m];exact A
 have g:∀k,(Value.slice a0 n c0).ownBlock=some k->B<=k:=λk hk=>A8 v (Ah a k hk);have s:=A0 g;have H:(n:Int)<=(c0:Int):=by omega
 clear C a m g;go_enter func250,ntmps250;go_wp2_with (first
  |(at_builtin;refine Ho _ rfl _ _ 56 rfl base 84 i0 _ 3 40 underlying56 z D E F rfl (by decide) (.slice a0 n c0) _ _ rfl q ⟨b,0,none⟩ 1 1 (Ej u) rfl rfl t (Gl.one _) (by simp[maxLen];omega) (by omega) y ?_
    intro L G i c _;have h:Below B w G:=(A2 B w).grown c (by omega) s;obtain⟨r,p,f⟩:=Hx3 i h c;clear i c h)
  |fail)
 all_goals
  go_ret;exact⟨_,rfl,r,p,by first|exact f|(cases a0<;>exact f)⟩
end
theorem X0(n₀:Nat)(v:Value)(d:List MV)(m:MV)(s:S3)(w:World)(h:Fc n₀ w v d)(Q:n₀<=w.heap.size)(hl:d.length<=1000)(u:∀x∈d,x.1<m.1):
 Calls prog 182 #[v, .agg #[m.1, m.2.1,sv s]] w λe w'=>∃z,e= .returned z/\Below n₀ w w'/\Ac w w' (λk=>some k=v.ownBlock):=by
 obtain⟨a,c,rfl⟩:=Lk (Lj h);obtain⟨g,j,l⟩:=s;obtain⟨f,m1,m2⟩:=m;dsimp only[sv] at u⊢;obtain⟨B,N⟩:=Hx2 h u;clear h u;go_enter func182,ntmps182;go_wp2_with fail;have C:=Aa.new w [f, m1, .slice g j l] 84;obtain⟨A,J⟩:=Hx2 ((A2 w.heap.size w).alloc (A1 _) (.cells #[f, m1, .slice g j l] 84)) C;have a4:(w.alloc (.cells #[f, m1, .slice g j l] 84)).heap.size=w.heap.size+1:=Bx _ _;generalize w.alloc (.cells #[f, m1, .slice g j l] 84)=r at*;clear C;go_loopw [5] (λi wr=>∃k:Nat,i= .int .i64 (k:Int)/\k<=d.length/\Below r r wr) (λi _=>d.length-(intOf i).toNat)
 case atStart=>exact⟨0,rfl,A7 _,A2 _ _⟩
 case round=>
  generalize wr=n at*;obtain⟨k,rfl,hk,hb⟩:=hrel;have t:=A0 (A.trans (hb.mono A.size));have o:=J.below hb;have Y:=A0 o;have y:Below r r n.drew:=hb.drew;obtain⟨O,X⟩:=Hx2 y o.drew;obtain⟨f0,f1,f2,_,_,_⟩:=o.three;by_cases H:k<d.length
  ·obtain⟨b,off,Z,a0,rfl,a2,a1,_,_,_⟩:=MK (Ie (Lj B) t) H;have hy:=N d[k] (BA H);generalize d[k].1=W at*;have P:(k:Int)<(d.length:Int):=by omega
   have g1:(0:Int)<=(k:Int):=by omega
   have g2:decide ((k:Int)<(d.length:Int))=true:=Hc P;have q:decide (W<f)=true:=Hc hy;clear hb o y;go_wp2_with fail
   go_region
   go_wp2_with fail;exact⟨⟨k+1,rfl,by omega,O⟩,by simp[intOf];omega⟩
  ·obtain rfl:k=d.length:=by omega
   have hd:decide ((d.length:Int)<(d.length:Int))=false:=A6 (by omega);have a3:decide (d.length<d.length)=false:=A6 (by omega);have S:=t.size;have p:=(t.alloc S (.cells #[f, m1, .slice g j l] 84)).drew;have F:=(Aa.new n [f, m1, .slice g j l] 84).drew;have T:n<(n.alloc (.cells #[f, m1, .slice g j l] 84)).drew.heap.size:=by show n<(n.alloc _).heap.size;simp
   obtain⟨U,R,I,_⟩:=Kt B p;have D:=mH (.slice a d.length c) d.length n.heap.size n₀ n₀ U (f,m1,(g,j,l)) _ I F (by omega) (A1 _) (by omega);have M:=A0 (D.mono λe w' ⟨z,h1,h2,h3,h4⟩=>(show∃V,e=Ending.returned V/\Below n₀ w w'/\Ac w w' (λb=>some b=(Value.slice a d.length c).ownBlock) from⟨z,h1,(p.mono Q).trans h3,((Ai p).mono λ_ _ h=>h.elim).trans (Gs h4)⟩));clear p F T R I D hb o y;go_wp2_with fail
   go_region
   go_wp2_with fail;refine M.mono ?_;rintro e a6 ⟨a5,rfl,E,G⟩;obtain⟨K,L⟩:=Hx2 E G;clear E G;go_wp2_with fail;go_ret;exact⟨_,rfl,K,L⟩
section
open Go.RowKit Go.Lib
theorem mI(d:Value)(n b base B:Nat)(l:List (MB))(u:MB)(w:World)(a:w.ownsRow base 106 2 d n (Af BR l))(m:w.heap[b]?=some (.cells (BR u).toArray 106 (0,0)))(J:n<=1000000)(v:B<=base)(y:base<=w.heap.size):
 Calls prog 253 #[d, n, .slice (some ⟨b,0,none⟩) 1 1] w λe w'=>
  ∃o,e= .returned o/\w'.ownsRow base 106 2 o (n+1) (Af BR l++BR u)/\Below B w w'/\w.grownBy w' d.ownBlock:=by
 obtain⟨i0,z,D,E,F⟩:=BW RY;have C:n=l.length:=(CJ IC a).2;obtain⟨a0,c0,rfl,I,K⟩:=Aw a;have q:=A0 a;have t:Hid (∀j x,(BR u)[j]?=some x->w.cell? ((⟨b,0,none⟩:Addr).add j)=some x):=λj x A=>by
  rw[Bo,B2,H6 m];exact A
 have g:∀k,(Value.slice a0 n c0).ownBlock=some k->B<=k:=λk hk=>A8 v (Ah a k hk);have s:=A0 g;have H:(n:Int)<=(c0:Int):=by omega
 clear C a m g;go_enter func253,ntmps253;go_wp2_with (first
  |(at_builtin;refine Ho _ rfl _ _ 82 rfl base 106 i0 _ 2 24 underlying82 z D E F rfl (by decide) (.slice a0 n c0) _ _ rfl q ⟨b,0,none⟩ 1 1 (BR u) rfl rfl t (IC.one _) (by simp[maxLen];omega) (by omega) y ?_
    intro L G i c _;have h:Below B w G:=(A2 B w).grown c (by omega) s;obtain⟨r,p,f⟩:=Hx3 i h c;clear i c h)
  |fail)
 all_goals
  go_ret;exact⟨_,rfl,r,p,by first|exact f|(cases a0<;>exact f)⟩
end
theorem mJ(n₀:Nat)(v:Value)(bs:List MB)(b:MB)(w:World)(h:w.ownsRow n₀ 106 2 v bs.length (Af BR bs))(s:n₀<=w.heap.size)(hk:∀x∈bs,x.1=b.1)(hl:bs.length<=1):
 Calls prog 186 #[v, .agg #[b.1, .string b.2]] w λe w'=>∃a n c,e= .returned (.slice a n c)/\Below n₀ w w'/\Ac w w' (λk=>some k=v.ownBlock):=by
 obtain⟨a,c,rfl,_,_⟩:=Aw h;obtain⟨f,m1⟩:=b;have t:=Aa.new w [f, .string m1] 106;have l:=(A2 w.heap.size w).alloc (A1 _) (.cells #[f, .string m1] 106);have d:=Ag h l
 match bs,hk,hl with
 |[],_,_=>
  dsimp only[List.length_nil] at d⊢;clear h;go_enter func186,ntmps186;go_wp2_with fail;generalize w.alloc (.cells #[f, .string m1] 106)=o at*;obtain⟨f0,f1,_,_⟩:=t.two;have J:=l.size;have m:=(l.alloc J (.cells #[f, .string m1] 106)).drew.drew;have z:=((Aa.new o [f, .string m1] 106).drew).drew;have u:=mI (.slice a 0 c) 0 o.heap.size n₀ n₀ [] (f,m1) _ (Ag d (((A2 _ _).alloc (A1 _) (.cells #[f, .string m1] 106)).drew.drew)) z (by omega) (A1 _) (by have:=m.size;omega);have F:=A0 (u.mono λe w' ⟨U,h1,h2,h3,h4⟩=>(show∃G L H,e=Ending.returned (.slice G L H)/\Below n₀ w w'/\Ac w w' (λk=>some k=(Value.slice a 0 c).ownBlock) from by
   obtain⟨N,c2,rfl,_,_⟩:=Aw h2;exact⟨_,_,_,h1,(m.mono s).trans h3,((Ai m).mono λ_ _ h=>h.elim).trans (Gs h4)⟩))
  clear m z u d;refine En λK r=>?_;clear r;go_wp2_with fail
  go_region
  go_wp2_with fail
  go_region
  go_wp2_with fail;refine F.mono ?_;rintro e V ⟨O,S,P,rfl,y,C⟩;obtain⟨D,E⟩:=Hx2 y C;clear y C;go_wp2_with fail;go_ret;exact⟨_,_,_,rfl,D,E⟩
 |[x],hk,_=>
  obtain⟨j,M⟩:=x;obtain rfl:j=f:=hk _ (B6.2 rfl);dsimp only[List.length_cons,List.length_nil,Nat.zero_add] at d⊢;obtain⟨g,rfl,I⟩:=EM d (by omega);clear h;go_enter func186,ntmps186;go_wp2_with fail;generalize w.alloc (.cells #[j, .string m1] 106)=o at*;obtain⟨f0,f1,_,_⟩:=t.two;obtain⟨Q,W⟩:=BQ (i:=0) (v:= .int .i64 j) d rfl;obtain⟨R,X⟩:=BQ (i:=1) (v:= .string M) d rfl;have q:decide (j<j)=false:=A6 (by omega);have T:(j==j)=true:=by simp
  have p:=A0 l;clear d l;refine En λK r=>?_;clear r;go_wp2_with fail
  go_region
  go_wp2_with fail
  go_region
  go_wp2_with fail;have A:=(Ad o.drew.drew g 0 (.int .i64 j)).trans (Ad _ g 1 (.string m1));go_ret;exact⟨_,_,_,rfl,((p.drew.drew).mono s).trans (A.below (B:=n₀) (A8 s p.size) (λb hb=>by rw[hb];exact I)),((Ai p.drew.drew).mono λ_ _ h=>h.elim).trans (A.mono λk _ e=>by rw[e];rfl)⟩
theorem mK{n₀:Nat}{a:World}{v:Value}{b:List MV}(h:Fc n₀ a v b):∃cs,a.ownsRow n₀ 84 3 v b.length cs:=by
 obtain⟨c,_,h2,_⟩:=h;exact⟨_,h2⟩
theorem R3{n₀:Nat}{f:World}{v:Value}{g:List MV}(h:Fc n₀ f v g){k:Nat}(hk:k<g.length):
 ∃(b c:Nat) (s:S3),v= .slice (some ⟨b,0,none⟩) g.length c/\n₀<=b/\b<f.heap.size/\f.cell? ⟨b,k*3,none⟩=some (.int .i64 g[k].1)/\f.cell? ⟨b,k*3+1,none⟩=some (.int .i64 g[k].2.1)/\f.cell? ⟨b,k*3+2,none⟩=some (sv s)/\f.frozen? ⟨b,k*3+2,none⟩=false/\
  f.ownsRow n₀ 106 2 (sv s) g[k].2.2.length (Af BR g[k].2.2)/\(sv s).ownBlock≠some b:=by
 obtain⟨d,h1,h2,h3⟩:=h;obtain⟨a,c,rfl,_,_⟩:=Aw h2;obtain⟨b,rfl,hb⟩:=EM h2 (by omega);have i:k<d.length:=by omega
 obtain⟨l,m,j⟩:=h3 k i hk;have c0:=(BQ h2 ((DB Gl d k i 0 (by omega)).trans (show _=some (Value.int .i64 d[k].1) from rfl))).1;have c1:=(BQ h2 ((DB Gl d k i 1 (by omega)).trans (show _=some (Value.int .i64 d[k].2.1) from rfl))).1;have c2:=(BQ h2 ((DB Gl d k i 2 (by omega)).trans (show _=some (sv d[k].2.2) from rfl)));rw[l] at c0;rw[m] at c1;exact⟨b,c,d[k].2.2,rfl,Ah h2 b rfl,AM h2 b rfl,c0,c1,c2.1,c2.2,j,λe=>Cn j h2 (by decide) _ e rfl⟩
theorem mL(v:Value)(i:List MV)(x:Rq)(w:World)(c6:Gn w v i)(aj:O9 i)(h:R2 i x):
 Calls prog 93 #[v,Cy x] w λe w'=>∃cy T,e= .returned (.tuple #[cy,De 0 T 0])/\Below w w w':=by
 obtain⟨op,vol,tv,blk,n,t⟩:=x;have hl:=aj.len;have bX:=λm hm=>aj.few m hm;have aK:=A0 c6;have aV:=((A2 w.heap.size w).alloc (A1 _) (.cells #[op, vol, tv, blk, n, .string t] 39));have ap:=aV.alloc aV.size (.cells #[.int .i64 0, .string ⟨#[]⟩, .int .i64 0] 44);have bP:=(Aa.new w [op, vol, tv, blk, n, .string t] 39).below ((A2 _ _).alloc (A1 _) (.cells #[.int .i64 0, .string ⟨#[]⟩, .int .i64 0] 44));have aU:=Aa.new (w.alloc (.cells #[op, vol, tv, blk, n, .string t] 39)) [.int .i64 0, .string ⟨#[]⟩, .int .i64 0] 44;simp only[Bx] at aU;have c1:=λQ P=>mr v i Q P aj;have bV:=λQ P=>mG v i ⟨op,vol,tv,blk,n,t⟩ Q P aj h;have c3:=λQ P=>mq v i Q P (by omega) bX;have av:=λu Q P=>XV u i vol Q P (by omega);clear c6 aj bX;go_enter func93,ntmps93;go_wp2_with fail;refine(c1 _ (Ie aK ap)).mono ?_;rintro e dT ⟨rfl,r⟩;have aX:=bP.below r;have bO:=ap.trans (r.mono ap.size);obtain⟨ao,a3,N⟩:=Hx3 aX (aU.below r) bO;obtain⟨c7,bb,c8,c9,ca,cb⟩:=aX.six;clear r bP aU aV ap c1 aX bO;go_wp2_with fail;refine(bV _ (Ie aK N)).mono ?_;rintro e bc ⟨rfl,au⟩;obtain⟨bK,aF,an⟩:=Hx3 (ao.below au) (a3.below au) (N.trans (au.mono N.size));clear au ao a3 N c7 bb c8 c9 ca cb bV;go_wp2_with fail;refine(c3 _ (Ie aK an)).mono ?_;rintro e cg ⟨cc,rfl,b6,ad⟩;obtain⟨aM,bw,aL,bu⟩:=Hx4 (bK.below ad) (aF.below ad) (an.trans (ad.mono an.size)) b6;have b2:=av cc cg (Lj b6);obtain⟨f,bL,b3⟩:∃f bL,FW i vol=(f,bL):=⟨_,_,rfl⟩;rw[b3] at b2;have bb:=aM.cell 1 (v:= .int .i64 vol) rfl;have c2:bc<=cg.heap.size:=ad.size;have cv:w.heap.size+2<=bc.heap.size:=by have:=aF.lt;omega
 generalize bc.heap.size=n₀ at*;clear ad bK aF an c3 b6 av;go_wp2_with fail;refine b2.mono ?_;rintro e d ⟨rfl,J⟩;have aq:=aM.below J;obtain⟨ao,a3,N,bt⟩:=Hx4 aq (bw.below J) (aL.trans (J.mono aL.size)) (Kt bu J);obtain⟨c7,bb,c8,c9,ca,cb⟩:=aq.six;have d0:=aq.lt;have cX:=a3.lt;have d1:n₀<=d.heap.size:=A8 c2 J.size;clear J aM bw aL bu aq b2 c2;have ac:=(A2 d.heap.size d).alloc (A1 _) (.cells #[.int .i64 0, .string ⟨#[]⟩, .int .i64 0] 44);have ax:(d.alloc (.cells #[.int .i64 0, .string ⟨#[]⟩, .int .i64 0] 44)).heap.size=d.heap.size+1:=Bx _ _;obtain⟨a2,U,a4,a6,R,cP⟩:=Hx6 (Aa.new d [.int .i64 0, .string ⟨#[]⟩, .int .i64 0] 44) (ao.below ac) (a3.below ac) (N.alloc N.size (.cells #[.int .i64 0, .string ⟨#[]⟩, .int .i64 0] 44)) (Kt bt ac) ac;obtain⟨cU,c4⟩:=mK bt;have al:=A0 c4;have b9:w<n₀/\w.heap.size+1<n₀:=by omega
 have b8:w<=n₀:=by omega
 clear c4 ac cv;rcases h with⟨rfl,_,_,_,_,rfl⟩|⟨h,k,hk,cr,_,_,b4,b5⟩|⟨rfl,m,rfl,hm,h3,_,_,_,b5⟩;focus
  go_wp2_with fail;refine(X0 n₀ cc [] (vol,n,[]) (none,0,0) _ R (by omega) (by simp) nofun).mono ?_;rintro e bl ⟨ak,rfl,O,ah⟩;obtain⟨M,a5,a7⟩:=Hx3 (ah.blk a2 (λe=>by have:=AM al _ e.symm;omega)) (a4.below' O b9.2) (a6.trans (O.mono b8));obtain⟨T,D⟩:∃T:ByteArray,T=⟨#[]⟩:=⟨_,rfl⟩;rw[<-D] at M;clear O ah D
 rotate_left;focus
  injection b3.symm.trans cr with hfe1 hfe2;subst hfe1 hfe2;dsimp only at h b4;rcases h with rfl|⟨rfl,_⟩
 focus
  obtain⟨b,c,s,rfl,bR,af,V,W,H,ag,E,L⟩:=R3 R hk;obtain⟨z,A,C⟩:=s;dsimp only[sv] at H E;generalize i[f].2.2=bs at*;have bp:=U.cell 3 (v:= .int .i64 blk) rfl;have co:(f:Int)<(i.length:Int):=by omega
  have g1:(0:Int)<=(f:Int):=by omega
  have ck:=A0 (CJ IC E).1;clear E V W ag L b4;go_wp2_with fail;refine BM (S:=λa8=>a8.cell? ⟨b,f*3+2,none⟩=some (.slice z A C)/\a8.cell? ⟨w,3,none⟩=some (.int .i64 blk)) (by kernel_rfl) 10 rfl ⟨H,bp⟩ (λa=>?_);have X:=a2.drew;have ab:=a4.drew;have I:=a6.drew;have b1:b<(d.alloc (.cells #[.int .i64 0, .string ⟨#[]⟩, .int .i64 0] 44)).drew.heap.size:=af;have cu:(d.alloc (.cells #[.int .i64 0, .string ⟨#[]⟩, .int .i64 0] 44)).drew.heap.size=d.heap.size+1:=ax;have J:b<d.heap.size:=AM al b rfl;have Y:=Aj ck ((A2 _ _).drew);generalize (d.alloc (.cells #[.int .i64 0, .string ⟨#[]⟩, .int .i64 0] 44)).drew=aP at*;refine Ab 0 a ?_;refine Ab 1 a ?_;refine Ab 2 a ?_;refine Ab 3 a ?_;refine Ab 4 a ?_;refine Ab 5 a ?_;refine Ab 6 a ?_;refine Px ?_;refine Ao 7 (λK g=>?_);go_simp;refine(mw (.slice z A C) bs blk aP Y (by omega)).mono ?_;rintro e F ⟨rfl,r⟩;obtain⟨T,D⟩:∃T:ByteArray,Ll bs blk=T:=⟨_,rfl⟩;rw[D];have aT:=X.below r;have q:F.cell? ⟨b,f*3+2,none⟩=some (.slice z A C)/\F.cell? ⟨w,3,none⟩=some (.int .i64 blk):=⟨(r.cell (p:=⟨b,f*3+2,none⟩) (by show b<_;omega)).trans a.1,(r.cell (p:=⟨w,3,none⟩) (by show w.heap.size<_;omega)).trans a.2⟩;have y:=Ad F d.heap.size 1 (.string T);have cp:=r.size;obtain⟨f0,f1,f2,ci,cj,ay⟩:=aT.three;refine g _ _ q (λ_=>?_);clear g K;refine Px ?_;refine Ab 8 q ?_;refine Px ?_;refine Ao 9 (λK g=>?_);go_simp;refine g _ _ ⟨(y.cell (by omega) (by omega)).trans q.1,(y.cell (by omega) (by omega)).trans q.2⟩ (λ_=>?_);clear g K;refine Px ?_;refine Bc (by kernel_rfl) ?_ _;obtain⟨M,a5,a7⟩:=Hx3 (show Aa (F.setCell ⟨d,1,none⟩ (.string T)) d.heap.size [.int .i64 0, .string T, .int .i64 0] 44 from aT.set 1 (.string T)) (y.blk (ab.below r) (by omega)) ((I.trans (r.mono I.size)).trans (y.below (B:=w.heap.size) (by have:=I.size;omega) (λb hb=>by omega)));generalize F.setCell ⟨d,1,none⟩ (.string T)=bl at*;generalize Value.slice (some ⟨b,0,none⟩) i.length c=ak at*;clear X ab I Y a q r aT y D f0 f1 f2 ci cj ay
 rotate_left;focus
  obtain⟨b,c,s,rfl,bR,af,V,W,H,ag,E,L⟩:=R3 R hk;obtain⟨z,A,C⟩:=s;dsimp only[sv] at H E L;generalize i[f].2.2=bs at*;have bp:=U.cell 3 (v:= .int .i64 blk) rfl;have cK:=U.cell 5 (v:= .string t) rfl;have co:(f:Int)<(i.length:Int):=by omega
  have g1:(0:Int)<=(f:Int):=by omega
  clear V W;go_wp2_with fail;refine BM (S:=λa8=>a8.cell? ⟨w,5,none⟩=some (.string t)/\a8.cell? ⟨w,3,none⟩=some (.int .i64 blk)) (by kernel_rfl) 16 rfl ⟨cK,bp⟩ (λa=>?_);have X:=a2.drew;have ab:=a4.drew;have I:=a6.drew;have b1:b<(d.alloc (.cells #[.int .i64 0, .string ⟨#[]⟩, .int .i64 0] 44)).drew.heap.size:=af;have cu:(d.alloc (.cells #[.int .i64 0, .string ⟨#[]⟩, .int .i64 0] 44)).drew.heap.size=d.heap.size+1:=ax;have J:b<d.heap.size:=AM al b rfl;have cm:(d.alloc (.cells #[.int .i64 0, .string ⟨#[]⟩, .int .i64 0] 44)).drew.cell? ⟨b,f*3+2,none⟩=some (.slice z A C):=H;have av:(d.alloc (.cells #[.int .i64 0, .string ⟨#[]⟩, .int .i64 0] 44)).drew.frozen? ⟨b,f*3+2,none⟩=false:=ag;have b7:=Je E;generalize (d.alloc (.cells #[.int .i64 0, .string ⟨#[]⟩, .int .i64 0] 44)).drew=aP at*;refine Ab 0 a ?_;refine Ab 1 a ?_;refine Ab 2 a ?_;refine Ab 3 a ?_;refine Ab 4 a ?_;refine Ab 5 a ?_;refine Ab 7 a ?_;refine Ab 8 a ?_;refine Ab 9 a ?_;refine Ab 10 a ?_;refine Ab 11 a ?_;refine Px ?_;refine Ao 6 (λK g=>?_);go_simp;refine g _ _ a (λ_=>?_);clear g K;refine Px ?_;refine Ao 12 (λK g=>?_);go_simp;refine(mJ n₀ (.slice z A C) bs (blk,t) aP b7 (by omega) (b4 trivial) b5).mono ?_;rintro e F ⟨a9,ch,aa,rfl,G,ai⟩;have q:F.cell? ⟨w,5,none⟩=some (.string t)/\F.cell? ⟨w,3,none⟩=some (.int .i64 blk):=⟨(G.cell (p:=⟨w,5,none⟩) (by show w.heap.size<_;omega)).trans a.1,(G.cell (p:=⟨w,3,none⟩) (by show w.heap.size<_;omega)).trans a.2⟩;have cM:=(ai.cell (k:=b) (o:=f*3+2) b1 (λe=>L e.symm)).trans cm;have ay:=(ai.frozen (k:=b) (o:=f*3+2) b1 (λe=>L e.symm)).trans av;have cp:=ai.size;refine g _ _ q (λ_=>?_);clear g K;refine Px ?_;have y:=Ad F b (f*3+2) (.slice a9 ch aa);refine Ab 13 q ?_;refine Ab 14 q ?_;refine Px ?_;refine Ao 15 (λK g=>?_);go_simp;refine g _ _ ⟨(y.cell (by omega) (by omega)).trans q.1,(y.cell (by omega) (by omega)).trans q.2⟩ (λ_=>?_);clear g K;refine Px ?_;refine Bc (by kernel_rfl) ?_ _;obtain⟨T,D⟩:∃T:ByteArray,T=⟨#[]⟩:=⟨_,rfl⟩;obtain⟨M,a5,a7⟩:=Hx3 (y.blk (ai.blk X (λe=>Gh b7 X (by decide) e)) (by omega)) (y.blk (ab.below' G b9.2) (by omega)) ((I.trans (G.mono b8)).trans (y.below (B:=w.heap.size) (by have:=I.size;omega) (λcT cV=>by omega)));rw[<-D] at M;generalize F.setCell ⟨b,f*3+2,none⟩ (.slice a9 ch aa)=bl at*;generalize Value.slice (some ⟨b,0,none⟩) i.length c=ak at*;clear X ab I a q G ai y D cM ay b7
 rotate_left;focus
  have hf:FW [m] vol=(0,true):=RZ (by simp) hm (by intro j _ h;omega);injection b3.symm.trans hf with hfe1 hfe2;subst hfe1 hfe2;have hk:0<[m].length:=by simp
  obtain⟨b,c,s,rfl,bR,af,V,W,H,ag,E,L⟩:=R3 R hk;obtain⟨z,A,C⟩:=s;obtain⟨cL,Z,bs⟩:=m;dsimp only[sv,List.getElem_cons_zero,List.length_cons,List.length_nil] at V W H E L h3 b5⊢;have cF:=U.cell 2 (v:= .int .i64 tv) rfl;have cC:=U.cell 0 (v:= .int .i64 6) rfl;have Y:=(CJ IC E).1;obtain⟨l,cq⟩:∃l,d.alloc (.cells #[.int .i64 0, .string ⟨#[]⟩, .int .i64 0] 44)=l:=⟨_,rfl⟩;rw[cq] at a2 U a4 a6 R V W H E Y af ax cF cC;have b0:=(A2 l.heap.size l).alloc (A1 _) (.cells #[tv, Z, .slice z A C] 84);have bM:=Aa.new l [tv, Z, .slice z A C] 84;have bT:=Xx (.slice z A C) bs (l.alloc (.cells #[tv, Z, .slice z A C] 84)) (Aj Y b0) (by omega);obtain⟨bx,bq⟩:=Hx2 bM b0;have cs:n₀<=l.heap.size:=by omega
  have d3:w.heap.size+1<l.heap.size:=by omega
  have d2:w<l.heap.size:=by omega
  clear E ag L Y bM b0 ax;go_wp2_with fail;refine bT.mono ?_;rintro e cz ⟨a9,aa,rfl,ct,G⟩;have bN:=bx.below G;obtain⟨dk,dn,ds,da,dc,dd⟩:=bN.three;have c5:l<(l.alloc (.cells #[tv, Z, .slice z A C] 84)).heap.size:=by simp
  have c0:=Ad cz l.heap.size 2 (.slice a9 bs.length aa);have ar:=(bq.trans (G.mono (Hq c5))).trans (c0.below (B:=l.heap.size) (by have:=G.size;omega) (λb hb=>by omega));obtain⟨cl,aC⟩:=Hx2 (X0 n₀ _ [(cL,Z,bs)] (tv,Z,bs) (a9,bs.length,aa) _ (Kt R ar) (A8 cs ar.size) (by simp) (λx cw=>by rw[B6.1 cw];exact h3)) ar;clear ct G bN c5 c0 ar bT bx bq;go_wp2_with fail;refine cl.mono ?_;rintro e bl ⟨ak,rfl,O,ah⟩;obtain⟨M,a5,a7⟩:=Hx3 (ah.blk (a2.below aC) (λe=>by have:=AM al _ e.symm;omega)) ((a4.below aC).below' O b9.2) ((a6.trans (aC.mono (by omega))).trans (O.mono b8));obtain⟨T,D⟩:∃T:ByteArray,T=⟨#[]⟩:=⟨_,rfl⟩;rw[<-D] at M;clear O ah D
 rotate_left;all_goals
  obtain⟨a0,a1,cS,_,_,_⟩:=M.three;obtain⟨d4,d5,d6,ci,cj,ay⟩:=a5.three;go_wp2_with fail
  go_region
  go_wp2_with fail;have hp:=a5.put3 (.int .i64 0) (.string T) (.int .i64 0);obtain⟨cx,t1,t2,_,_,_⟩:=hp.1.drew.three;refine A5 (v:= .tuple #[ak,De 0 T 0]) (by simp[results,results93,go_sem,cx,t1,t2]) rfl ?_;refine⟨ak,T,rfl,?_⟩;exact(a7.trans (hp.2.below (B:=w.heap.size) a7.size (λb hb=>by omega))).drew
inductive Cg(p:Pl)(x:Rq):Pl→ByteArray→Prop where
 |create (h:x.op=0) (h1:1≤x.vol) (h2:x.vol≤1000) (h3:0≤x.n) (h4:x.n≤100000) (h5:p.vols=[]):Cg p x (Ia p x.vol x.n) ⟨#[]⟩
 |read (h:x.op=3) (v:Vl) (n:Int) (h1:CF p.vols x.vol=some v) (h2:0≤x.blk) (h3:x.blk<v.2.1) (h4:EI (v.2.2) x.blk=some n) (h5:GQ (BO p n) (rP n)=true):Cg p x p (EE (BO p n) (rP n))
 |write (h:x.op=4) (v:Vl) (t:ByteArray) (pk:Bool) (c:Nat) (h1:CF p.vols x.vol=some v) (h2:x.text.size=256) (h3:CH p v x.blk t pk c) (h4:EV x.text t pk true) (h5:FP p.tabs (Aq t.size) (-1)=some c):Cg p x (AU p v x.blk t pk c) ⟨#[]⟩
 |snap (h:x.op=6) (v:Vl) (h1:CF p.vols x.vol=some v) (h2:Ei p v x.tv):Cg p x (DS p v x.tv) ⟨#[]⟩
theorem Cg.ask{p q:Pl}{x:Rq}{T:ByteArray}(h:Cg p x q T)(f:AR p):R2 (Do p.vols) x:=by
 have hb:∀v,CF p.vols x.vol=some v->(Ek v.2.2).length<=1:=λv i=>by rw[RU];exact(f.vols.ok v (K5 i).1).len
 cases h with
 |create h h1 h2 h3 h4 h5=>exact .create h h1 h2 h3 h4 (by rw[h5];rfl)
 |read h v n h1 h2 h3 h4 h5=>
  obtain⟨k,hk,d,a⟩:=XZ h1;exact .block (.inl h) k hk d h2 (by rw[a];exact h3) (λe=>by omega) (by rw[a];exact hb v h1)
 |write h v t pk c h1 h2 h3 h4 h5=>
  obtain⟨k,hk,d,a⟩:=XZ h1;refine .block (.inr ⟨h,h2⟩) k hk d h3.b0 (by rw[a];exact h3.b1) (λ_ b hb=>?_) (by rw[a];exact hb v h1);rw[a] at hb;obtain⟨q,g,rfl⟩:=E1.1 hb;exact h3.key q g
 |snap h v h1 h2=>
  exact .snap h (v.1,v.2.1,Ek v.2.2) (by rw[h2.vs];rfl) (K5 h1).2 h2.lt h2.t1 h2.t2 (f.vols.ok v h2.mem).sz0 (hb v h1)
theorem mM(w:World)(s:ByteArray)(h0:s.size=256):∃t pk,EV s t pk true:=by
 obtain⟨e,w',b,⟨t,p,ok,_,h,_⟩,_⟩:=Rv s w [];have a:EV s t p ok:=h;have:=(NX a h0).1;subst this;exact⟨t,p,a⟩
structure C7(p:Pl):Prop where
 ok:AR p
 dead:p.disk.dead=false
 fuse:p.disk.fuse= -1
 read:Gm p
theorem R4(w:World){p:Pl}(h:C7 p){v:Vl}{blk:Int}{s:ByteArray}(m:p.vols=[v])(l:∀q∈v.2.2,q.1=blk)(b0:0<=blk)(b1:blk<v.2.1)(h0:s.size=256){i:Nat}(j:i<p.tabs.length)(g:p.tabs.getD i []=[])(hc:p.disk.cache.length+8<=20000):
 ∃t pk c,EV s t pk true/\FP p.tabs (Aq t.size) (-1)=some c/\CH p v blk t pk c/\C7 (AU p v blk t pk c)/\IH (AU p v blk t pk c) v.1 blk s:=by
 obtain⟨t,pk,b⟩:=mM w s h0;obtain⟨_,_,o,r,u⟩:=NX b h0;obtain⟨k,hk,z,A,B⟩:=K7 (s:=t.size) (by omega) (by omega);obtain⟨c,hs⟩:=mf (n:=Aq t.size) (nt:= -1) j (by omega) g (by omega) (by omega);obtain⟨x,C,y⟩:=iq hs;have a:CH p v blk t pk c:=⟨h.ok,m,l,b0,b1,r,o,by
  cases pk with
  |true=>exact Or.inl rfl
  |false=>exact Or.inr (by
   have:¬t.size<256:=λe=>by have:=u.2 e;cases this
   omega),x,y,hc⟩
 obtain⟨_,_,d,f⟩:=RR a;refine⟨t,pk,c,b,hs,a,⟨WS a,?_,?_,lT a b h0 h.read⟩,lS a b h0⟩
 ·rw[f];exact h.dead
 ·rw[d];exact h.fuse
theorem R5{p:Pl}(ok:AR p){id blk:Int}{s:ByteArray}(h:IH p id blk s):Cg p ⟨3,id,0,blk,0,⟨#[]⟩⟩ p s:=by
 obtain⟨v,n,h1,h2,h3,h4⟩:=h;obtain⟨a,b,_⟩:=(ok.vols.ok v (K5 h1).1).ok _ (Ol h2);rw[<-h3];exact .read rfl v n h1 a b h2 h4
theorem X6{d:Dk}(h:Bd d):Bd (Cf d):=⟨h.pos,h.most,by show(0:Nat)<=_;omega,by show(-1:Int)≤-1;omega,by show(-1:Int)<=_;omega,by show(0:Nat)<=_;omega,h.size,λq a=>by cases a⟩
theorem X7{c m:Nat}(h1:1<=c)(h2:c<=100)(h3:1<=m)(h4:m<=500)(h5:2+2*m+16*c<=5000):C7 (BE c m):=by
 obtain⟨_,_,a,b⟩:=RT h1 h3 h4 h5;exact⟨XR h1 h2 h3 h4 h5,b,a,λn d=>by cases d⟩
theorem X8{c m:Nat}(h:C7 (BE c m)){id n:Int}(h1:1<=id)(h2:id<=1000)(h3:0<=n)(h4:n<=100000):C7 (Ia (BE c m) id n):=
 ⟨jS h.ok h1 h2 h3 h4 rfl,h.dead,h.fuse,lV _ _ _⟩
theorem Ya{c m:Nat}{id n:Int}(h1:1<=id)(h2:id<=1000)(h3:0<=n)(h4:n<=100000):Cg (BE c m) ⟨0,id,0,0,n,⟨#[]⟩⟩ (Ia (BE c m) id n) ⟨#[]⟩:=
 .create rfl h1 h2 h3 h4 rfl
theorem mN(w:World)(A R:ByteArray)(M:A.size=256)(N:R.size=256):∃e b f h:Pl,
 C7 (BE 2 4)/\Cg (BE 2 4) ⟨0,1,0,0,3,⟨#[]⟩⟩ e ⟨#[]⟩/\C7 e/\Cg e ⟨4,1,0,2,0,A⟩ b ⟨#[]⟩/\C7 b/\(b.gen=1/\b.area=0/\b.mt=4/\(AG b.vols).length<=4/\b.tabs.length=2)/\
 C7 (AF b)/\Cg (AF b) ⟨4,1,0,2,0,R⟩ f ⟨#[]⟩/\C7 f/\Cg f ⟨6,1,2,0,0,⟨#[]⟩⟩ h ⟨#[]⟩/\C7 h/\Cg h ⟨3,2,0,2,0,⟨#[]⟩⟩ h R/\h.mt=4/\
 (h.disk.kept=(AF b).disk.kept/\Jp h.disk.kept 4 2 1 b.vols/\MG h.disk.kept 2 1)/\
 C7 (C5 (Cf h.disk) 4 2 1 b.vols 2)/\Cg (C5 (Cf h.disk) 4 2 1 b.vols 2) ⟨3,1,0,2,0,⟨#[]⟩⟩ (C5 (Cf h.disk) 4 2 1 b.vols 2) A:=by
 have i0:=X7 (c:=2) (m:=4) (by omega) (by omega) (by omega) (by omega) (by omega);have i1:=X8 i0 (id:=1) (n:=3) (by omega) (by omega) (by omega) (by omega);have d1:=Ya (c:=2) (m:=4) (id:=1) (n:=3) (by omega) (by omega) (by omega) (by omega);have I:(Ia (BE 2 4) 1 3).vols=[(1,3,[])]:=rfl;obtain⟨e,P⟩:∃e,e=Ia (BE 2 4) 1 3:=⟨_,rfl⟩;have g1:e.tabs=[[],[]]/\e.gen=1/\e.area=0/\e.mt=4/\e.disk=(BE 2 4).disk:=by subst P;exact⟨rfl,rfl,rfl,rfl,rfl⟩
 rw[<-P] at i1 d1 I;obtain⟨t1,ap,a1,m1,U⟩:=g1;obtain⟨f1,f2,f3,f4⟩:=RT (c:=2) (m:=4) (by omega) (by omega) (by omega) (by omega);have ak:CF e.vols (1:Int)=some (1,3,[]):=by rw[I];rfl
 obtain⟨t,pk,c,a2,hs,r,i2,O⟩:=R4 w i1 (v:=(1,3,[])) (blk:=2) I nofun (by omega) (by show(2:Int)<3;omega) M (i:=0) (by rw[t1];decide) (by rw[t1];rfl) (by rw[U,f2];show 0+8<=20000;omega);have d2:Cg e ⟨4,1,0,2,0,A⟩ (AU e (1,3,[]) 2 t pk c) ⟨#[]⟩:= .write rfl _ t pk c ak M r a2 hs;have J:(AU e (1,3,[]) 2 t pk c).vols=[(1,3,[(2,Bi c (e.tabs.getD c []) t pk)])]:=rfl;obtain⟨ar,au,av,ax,ay,aC,aF,aK,aL,L⟩:=r.disk;have E:(AU e (1,3,[]) 2 t pk c).tabs=e.tabs.set c (BN (e.tabs.getD c []) (Aq t.size)):=by
  rfl
 obtain⟨_,aV,_⟩:=r.place;obtain⟨_,ag,_⟩:=r.place;obtain⟨b,Q⟩:∃b,b=AU e (1,3,[]) 2 t pk c:=⟨_,rfl⟩;have g2:b.gen=1/\b.area=0/\b.mt=4:=by subst Q;exact⟨ap,a1,m1⟩
 rw[<-Q] at i2 O d2 J L E;have aM:c<2:=by have:=r.cl;rw[t1] at this;exact this
 have a6:(AG b.vols).length<=4:=XQ (by rw[J];simp only[F4,R7,L3,List.sum_nil];simp only[BV,C4];omega);obtain⟨D,s,m2⟩:=g2;have z:b.gen+1<1099511627776:=by rw[D];omega
 have u:((AG b.vols).length:Int)<=b.mt:=by rw[m2];omega
 have G:=O7 i2.ok z u;obtain⟨aP,aT,W,an,aU,ao⟩:=G.fin;have i3:C7 (AF b):=⟨lO i2.ok z u,ao.trans i2.dead,an.trans i2.fuse,lZ i2.ok z u i2.read⟩;have X:(AF b).vols=[(1,3,[(2,Bi c (e.tabs.getD c []) t pk)])]:=J;have aq:∃i,i<(AF b).tabs.length/\(AF b).tabs.getD i []=[]:=by
  show∃i,i<(b.tabs.map Br).length/\(b.tabs.map Br).getD i []=[];rw[E,t1];rcases(show c=0\/c=1 by omega) with rfl|rfl
  ·exact⟨1,by show 1<2;omega,rfl⟩
  ·exact⟨0,by show 0<2;omega,rfl⟩
 obtain⟨i,a4,a5⟩:=aq;have aa:=lY i2.ok z u O;have al:CF (AF b).vols (1:Int)=some (1,3,[(2,Bi c (e.tabs.getD c []) t pk)]):=by rw[X];rfl
 obtain⟨o,l,k,a3,af,T,i4,H⟩:=R4 w i3 (v:=(1,3,[(2,Bi c (e.tabs.getD c []) t pk)])) (blk:=2) X (λq ad=>by rw[B6.1 ad]) (by omega) (by show(2:Int)<3;omega) N a4 a5 (by show(BB _ _ _ _ _).cache.length+8<=_;rw[W];show 0+8<=20000;omega);have d4:Cg (AF b) ⟨4,1,0,2,0,R⟩ (AU (AF b) (1,3,[(2,Bi c (e.tabs.getD c []) t pk)]) 2 o l k) ⟨#[]⟩:= .write rfl _ o l k al N T a3 af;have K:(AU (AF b) (1,3,[(2,Bi c (e.tabs.getD c []) t pk)]) 2 o l k).vols=[(1,3,[(2,Bi k ((AF b).tabs.getD k []) o l)])]:=rfl;obtain⟨aj,V,_,_⟩:=RR T;obtain⟨f,S⟩:∃f,f=AU (AF b) (1,3,[(2,Bi c (e.tabs.getD c []) t pk)]) 2 o l k:=⟨_,rfl⟩;have a0:f.mt=4:=by subst S;exact m2
 rw[<-S] at i4 H d4 K aj V;dsimp only at H;generalize [((2:Int),Bi k ((AF b).tabs.getD k []) o l)]=j at*;have B:Ei f (1,3,j) 2:=⟨i4.ok,K,by show(1:Int)<2;omega,by omega⟩;have i5:C7 (DS f (1,3,j) 2):=⟨ld B,i4.dead,i4.fuse,lX B i4.read⟩;have d5:Cg f ⟨6,1,2,0,0,⟨#[]⟩⟩ (DS f (1,3,j) 2) ⟨#[]⟩:= .snap rfl (1,3,j) (by show CF f.vols 1=_;rw[K];rfl) B;have ab:=lW B H;have p:(DS f (1,3,j) 2).disk.kept=(AF b).disk.kept:=V;have a7:Jp (AF b).disk.kept 4 2 1 b.vols:=by
  have:=Xn G;rw[m2,D,s] at this;show Jp (BB b.disk b.mt (b.gen+1) (1-b.area) b.vols).kept 4 2 1 b.vols;rw[m2,D,s];exact this
 have ac:MG (AF b).disk.kept 2 1:=λx ah=>by
  have h0:(AF b).disk.kept.getD 0 ByteArray.empty=AV b.disk 0:=Xo G (y:=0) (by have:=i2.ok.disk.pos;omega) (by rw[s];decide) (Or.inl (by omega));have ai:AV b.disk 0=(BE 2 4).disk.kept.getD 0 ByteArray.empty:=by
   rw[L,OH,A3 (by have:=ag;omega),U,Jo f2]
  have C:Dl ((AF b).disk.kept.getD 0 ByteArray.empty)=some x:=ah;rw[h0,ai,show(BE 2 4).disk.kept.getD 0 ByteArray.empty=_ from f1.sup,Wh f1.ok] at C;injection C with C;rw[<-C];show(1:Int)<2;omega
 refine⟨e,b,f,DS f (1,3,j) 2,i0,d1,i1,d2,i2,⟨D,s,m2,a6,by rw[E,t1,Di];rfl⟩,i3,d4,i4,d5,i5,R5 i5.ok ab,a0,⟨p,by rw[p];exact a7,by rw[p];exact ac⟩,?_⟩
 ·have hd:=X6 i5.ok.disk;have hl:(Cf (DS f (1,3,j) 2).disk).kept.length=(AF b).disk.kept.length:=by show(DS f (1,3,j) 2).disk.kept.length=_;rw[p]
  have hr:∀y:Nat,2+2*(AF b).mt<=(y:Int)->y<(AF b).disk.kept.length->AV (Cf (DS f (1,3,j) 2).disk) y=AV (AF b).disk y:=λy _ _=>by
   rw[Jo (d:=Cf _) rfl,Jo (show(AF b).disk.cache=[] from W)];show(DS f (1,3,j) 2).disk.kept.getD y _=_;rw[p]
  have a8:(AF b).tabs.length=2:=by show(b.tabs.map Br).length=2;rw[B4,E,t1,Di];rfl
  have F:=lP i3.ok hd (by show(0:Nat)<=_;omega) hl (g:=2) (a:=1) (by omega) (by omega) (by omega) (by omega);have Y:=ma i3.ok hr (g:=2) (a:=1) (n:=2) aa;have Z:=mb i3.ok hr (g:=2) (a:=1) (n:=2) i3.read;have a9:(AF b).mt=4:=m2;rw[a9] at F Y Z;rw[a8] at F;exact⟨⟨F,rfl,rfl,Z⟩,R5 F Y⟩
theorem mO(w:World)(s:ByteArray)(h0:s.size=256):∃(b d:Pl) (t:ByteArray) (pk:Bool) (a j:Int) (o:Bool),EV s t pk true/\
 C7 (BE 1 4)/\Cg (BE 1 4) ⟨0,1,0,0,1,⟨#[]⟩⟩ b ⟨#[]⟩/\C7 b/\Cg b ⟨4,1,0,0,0,s⟩ d ⟨#[]⟩/\C7 d/\Cg d ⟨3,1,0,0,0,⟨#[]⟩⟩ d s/\d.tabs=[[(a,Aq t.size,j,o)]]:=by
 have i0:=X7 (c:=1) (m:=4) (by omega) (by omega) (by omega) (by omega) (by omega);have i1:=X8 i0 (id:=1) (n:=1) (by omega) (by omega) (by omega) (by omega);have d1:=Ya (c:=1) (m:=4) (id:=1) (n:=1) (by omega) (by omega) (by omega) (by omega);have f:(Ia (BE 1 4) 1 1).vols=[(1,1,[])]:=rfl;obtain⟨b,h⟩:∃b,b=Ia (BE 1 4) 1 1:=⟨_,rfl⟩;have g1:b.tabs=[[]]/\b.disk=(BE 1 4).disk:=by subst h;exact⟨rfl,rfl⟩
 rw[<-h] at i1 d1 f;obtain⟨t1,p⟩:=g1;obtain⟨f1,f2,f3,f4⟩:=RT (c:=1) (m:=4) (by omega) (by omega) (by omega) (by omega);have q:CF b.vols (1:Int)=some (1,1,[]):=by rw[f];rfl
 obtain⟨t,pk,c,g,hs,e,i2,k⟩:=R4 w i1 (v:=(1,1,[])) (blk:=0) f nofun (by omega) (by show(0:Int)<1;omega) h0 (i:=0) (by rw[t1];decide) (by rw[t1];rfl) (by rw[p,f2];show 0+8<=20000;omega);have d2:Cg b ⟨4,1,0,0,0,s⟩ (AU b (1,1,[]) 0 t pk c) ⟨#[]⟩:= .write rfl _ t pk c q h0 e g hs;obtain rfl:c=0:=by have:=e.cl;rw[t1] at this;have:c<1:=this;omega
 have l:Cc [] (Aq t.size)=true:=by have:=e.take;rw[t1] at this;exact this
 refine⟨b,_,t,pk,Fo [] (Aq t.size),1,false,g,i0,d1,i1,d2,i2,R5 i2.ok k,?_⟩;show b.tabs.set 0 (BN (b.tabs.getD 0 []) (Aq t.size))=_;rw[t1];show[BN [] (Aq t.size)]=_;unfold BN;rw[A4 l];rfl
theorem Yb(c m:Nat)(h1:1<=c)(h2:c<=100)(h3:1<=m)(h4:m<=500)(h5:2+2*m+16*c<=5000)(w:World):
 Calls prog 9 #[c, m] w λe w'=>∃aU aT aV b1 aX,e= .returned (.tuple #[AO aU aT aV b1 aX (BE c m), .int .i64 0])/\(∀s,Ac w' s (λk=>k<w.heap.size)->AH s aU aT aV b1 aX (BE c m))/\Below w w w':=by
 have av:=RS h1 h3 h4 h5;have bV:(prog.info? 45).map (λi=>(i.zero,i.size,i.bytes))=some (some (.slice none 0 0),1,24):=by kernel_rfl
 obtain⟨i0,x,c0,c4,c5⟩:=BW bV;have g1:decide ((c:Int)<1)=false:=A6 (by omega);have g2:decide ((200:Int)<(c:Int))=false:=A6 (by omega);have cT:decide ((m:Int)<1)=false:=A6 (by omega);have cU:decide ((500:Int)<(m:Int))=false:=A6 (by omega);obtain⟨n,aF⟩:∃n,2+2*m+16*c=n:=⟨_,rfl⟩;have cX:(2:Int)+(m:Int)*2+16*(c:Int)=(n:Int):=by omega
 have d0:IntKind.i64.wrap (16*(c:Int))=16*(c:Int):=C0 _ (by omega);have d1:IntKind.i64.wrap (n:Int)=(n:Int):=C0 _ (by omega);have cV:decide ((5000:Int)<(n:Int))=false:=A6 (by omega);have B0:=Aa.new w Bz 31;have aq:Below w w (w.alloc (.cells Bz.toArray 31)):=(A2 _ w).alloc (A1 _) _;have aP:(w.alloc (.cells Bz.toArray 31)).heap.size=w.heap.size+1:=by simp
 obtain⟨r,a6,a8,b3,f,a9,T,a2⟩:=Hx8 B0 aq aP av (And.intro h1 (And.intro h2 (And.intro h3 (And.intro h4 h5)))) aF (λQ=>O2 m 2 Q (by omega) (by omega) (by omega) (by omega)) (λQ=>kW n Q (by omega) (by omega));clear B0 aq aP av h1 h2 h3 h4 h5 aF;go_enter func9,ntmps9;go_wp2_with fail;have b0:=r.out;have t:=a6.out;have P:=a8.out;clear r a6 a8;have aL:(w.alloc (.cells Bz.toArray 31))=(w.alloc (.cells #[.slice none 0 0, .slice none 0 0, .int .i64 0, .slice none 0 0, .bool false, .int .i64 0, .int .i64 0, .int .i64 0, .slice none 0 0, .slice none 0 0] 31)):=rfl;rw[aL] at b0 t P;clear aL;generalize w.alloc (.cells #[.slice none 0 0, .slice none 0 0, .int .i64 0, .slice none 0 0, .bool false, .int .i64 0, .int .i64 0, .int .i64 0, .slice none 0 0, .slice none 0 0] 31)=b8 at*;refine(T b8).mono ?_;rintro e cj ⟨rfl,rfl⟩;clear T;go_wp2_with fail;refine(a2 cj).mono ?_;rintro e d ⟨g,rfl,O,o⟩;have R:=Aa.new d [.slice (some ⟨g,0,none⟩) n n, .slice none 0 0, .int .i64 (-1), .slice none 0 0, .bool false] 27;have C:Below d d (d.alloc (.cells #[.slice (some ⟨g,0,none⟩) n n, .slice none 0 0, .int .i64 (-1), .slice none 0 0, .bool false] 27)):=(A2 _ d).alloc (A1 _) _;have aK:=Ag O C;have ac:=(b0.below o).below C;have ao:=(t.trans (o.mono t.size)).trans (C.mono (A8 t.size o.size));have ay:w.heap.size+1<(d.alloc (.cells #[.slice (some ⟨g,0,none⟩) n n, .slice none 0 0, .int .i64 (-1), .slice none 0 0, .bool false] 27)).heap.size:=by have:=o.size;simp only[Bx];omega
 have M:w.heap.size+1<=d.heap.size:=by have:=o.size;omega
 obtain⟨V,a4,r,G,cP,Z,b4,cS⟩:=Hx8 R aK ac ao ay M P (show w.heap.size+1<=g from by have:=Ah O g rfl;omega);clear R o C O aK b0 ac t ao P ay M a2;go_wp2_with (at_make;refine HZ _ rfl _ _ 29 rfl (d+1) 45 i0 (.slice none 0 0) 1 underlying29 x c0 c4 .i64 .i64 _ _ c rfl rfl rfl rfl (by have:=f.out;rw[c5];omega) (by have:=f.out;simp[maxLen];omega) (by simp) ?_)
 intro b F L;have aC:(madeCells #[Value.slice none 0 0] c).toList=List.replicate c (Value.slice none 0 0):=by
  apply Hf
  ·simp[madeCells]
  ·intro i h1 h2;simp[madeCells,S5]
 rw[aC] at F;clear aC;have K:=G.grown L G.size (λk h=>by cases h);have D:Below (d.alloc (.cells #[.slice (some ⟨g,0,none⟩) n n, .slice none 0 0, .int .i64 (-1), .slice none 0 0, .bool false] 27)).heap.size (d.alloc (.cells #[.slice (some ⟨g,0,none⟩) n n, .slice none 0 0, .int .i64 (-1), .slice none 0 0, .bool false] 27)) b:=(A2 _ _).grown L (A1 _) (λk h=>by cases h);have ad:=r.below D;have ah:=V.below D;have aj:Ez b (w+1) (.slice (some ⟨g,0,none⟩) n n) (.slice none 0 0) (.slice none 0 0) (Id n):=⟨by
  show b.ownsRow (w+1) 9 1 (.slice (some ⟨g,0,none⟩) n n) (List.replicate n Gj).length (Af Dy (List.replicate n Gj));rw[C6];exact CI (Ag a4 D) (by rw[b4.out];exact A1 _),C2 _ _ _ _,C2 _ _ _ _⟩
 have N:d.heap.size+1<b.heap.size:=AM F _ rfl;have p:Below b b (b.alloc (.cells #[.slice none 0 0, .slice none 0 0, .int .i64 0, .slice none 0 0, .bool false, m, .int .i64 1, .int .i64 0, .slice none 0 0, .slice (some ⟨d+1,0,none⟩) c c] 31)):=(A2 _ b).alloc (A1 _) _;have S:=Aa.new b [.slice none 0 0, .slice none 0 0, .int .i64 0, .slice none 0 0, .bool false, m, .int .i64 1, .int .i64 0, .slice none 0 0, .slice (some ⟨d+1,0,none⟩) c c] 31;have an:=Ag F p;have af:=ad.below p;have ai:=ah.below p;have ak:=(MC aj).below p;have aM:∀(ab:World),CU ab (.slice none 0 0) []:=λab=>⟨[],Cq (λ_=>rfl),rfl,λi x _=>by cases x⟩;have ax:=Xt (Id n) m 1 0 [] (by rw[<-a9.out];exact b3) (A7 _) rfl rfl _ _ _ (.slice none 0 0) (.slice none 0 0) (.slice none 0 0) (.int .i64 0) (.slice none 0 0) (.bool false) (.slice (some ⟨d+1,0,none⟩) c c) _ ak (aM _) (XR f.out.1 f.out.2.1 f.out.2.2.1 f.out.2.2.2.1 f.out.2.2.2.2).vols;obtain⟨Y,H,a5,U,W,a0,b6⟩:=Hx7 ax (K.trans (p.mono K.size)) an af S N (Bx b (.cells #[.slice none 0 0, .slice none 0 0, .int .i64 0, .slice none 0 0, .bool false, m, .int .i64 1, .int .i64 0, .slice none 0 0, .slice (some ⟨d+1,0,none⟩) c c] 31));obtain⟨f0,f1,f2,f3,f4⟩:=ai.five;clear ax K p an D aj ak aM ad ah af ai S N F L r V a4 G;go_wp2_with fail;refine Y.mono ?_;rintro e q ⟨d3,d2,d4,rfl,J,u⟩;have al:BB (Id n) m 1 0 []=(BE c m).disk:=by rw[<-a9.out];rfl
 have E:=J q (AW _ _);obtain⟨a1,c1,rfl⟩:=AK E.kept;obtain⟨j,c2,rfl⟩:=AK E.cache;obtain⟨l,c3,rfl⟩:=AK E.keep;have y:=A0 al;clear al E;generalize BB (Id n) m 1 0 []=a at*;have z:=W.below u;have A:Aa q w.heap.size [.slice none 0 0, .slice none 0 0, .int .i64 0, .slice none 0 0, .bool false, .int .i64 0, .int .i64 0, .int .i64 0, .slice none 0 0, .slice none 0 0] 31:=U.below u;have aa:=Ag a5 u;have ap:=H.trans (u.mono H.size);have b7:=((((z.set 0 (.slice a1 a.kept.length c1)).set 1 (.slice j a.cache.length c2)).set 2 (.int .i64 a.fuse)).set 3 (.slice l a.keep.length c3)).set 4 (.bool a.dead);have I:=(((((Ad q b.heap.size 0 (.slice a1 a.kept.length c1)).trans (Ad _ b.heap.size 1 (.slice j a.cache.length c2))).trans (Ad _ b.heap.size 2 (.int .i64 a.fuse))).trans (Ad _ b.heap.size 3 (.slice l a.keep.length c3))).trans (Ad _ b.heap.size 4 (.bool a.dead)));have bX:w.heap.size≠b.heap.size:=by have:=a0.out;have:=Z.out;omega
 have ag:=I.blk A bX;have hp:=ag.put10 (.slice a1 a.kept.length c1) (.slice j a.cache.length c2) (.int .i64 a.fuse) (.slice l a.keep.length c3) (.bool a.dead) (.int .i64 m) (.int .i64 1) (.int .i64 0) (.slice none 0 0) (.slice (some ⟨d+1,0,none⟩) c c);obtain⟨bc,bl,bp,bq,bs,bt,bu,bw,bx,bK⟩:=A.ten;obtain⟨cv,cw,cx,cy,cz,cC,cF,cK,cL,cM⟩:=A.fz10;obtain⟨c6,c7,c8,c9,ca,cb,cc,cg,ch,ci⟩:=z.ten;obtain⟨ck,cl,cm,co,cp,cq,cr,cs,ct,cu⟩:=z.fz10;obtain⟨a3,X,b5,b2,a7⟩:=Hx5 hp I aa J ap;clear hp I aa J ap z b7 A ag u W U a5 H Y f0 f1 f2 f3 f4;go_wp2_with fail;obtain⟨h1,h2⟩:=a3.out;have bT:=X.out;clear a3 X bc bl bp bq bs bt bu bw bx bK cv cw cx cy cz cC cF cK cL cM c6 c7 c8 c9 ca cb cc cg ch ci ck cl cm co cp cq cr cs ct cu;generalize ((((q.setCell ⟨b,0,none⟩ (.slice a1 a.kept.length c1)).setCell ⟨b,1,none⟩ (.slice j a.cache.length c2)).setCell ⟨b,2,none⟩ (.int .i64 a.fuse)).setCell ⟨b,3,none⟩ (.slice l a.keep.length c3)).setCell ⟨b,4,none⟩ (.bool a.dead)=b9 at*;generalize (((((((((b9.setCell ⟨w,0,none⟩ (.slice a1 a.kept.length c1)).setCell ⟨w,1,none⟩ (.slice j a.cache.length c2)).setCell ⟨w,2,none⟩ (.int .i64 a.fuse)).setCell ⟨w,3,none⟩ (.slice l a.keep.length c3)).setCell ⟨w,4,none⟩ (.bool a.dead)).setCell ⟨w,5,none⟩ (.int .i64 m)).setCell ⟨w,6,none⟩ (.int .i64 1)).setCell ⟨w,7,none⟩ (.int .i64 0)).setCell ⟨w,8,none⟩ (.slice none 0 0)).setCell ⟨w,9,none⟩ (.slice (some ⟨d+1,0,none⟩) c c)=bb at*;have N:=a0.out;have M:=Z.out;have au:Ac q bb (λk=>k=b.heap.size\/k=w.heap.size):=(bT.mono λk _ e=>Or.inl e).trans (h2.mono λk _ e=>Or.inr e);obtain⟨f0,f1,f2,f3,f4,bL,bM,bN,bO,bP⟩:=h1.ten;refine A5 (v:= .tuple #[.agg #[.slice a1 a.kept.length c1, .slice j a.cache.length c2, a.fuse, .slice l a.keep.length c3, .bool a.dead, m, .int .i64 1, .int .i64 0, .slice none 0 0, .slice (some ⟨d+1,0,none⟩) c c], .int .i64 0]) (by simp[results,results9,go_sem,f0,f1,f2,f3,f4,bL,bM,bN,bO,bP]) rfl ?_;refine⟨.slice a1 a.kept.length c1, .slice j a.cache.length c2, .slice l a.keep.length c3, .slice none 0 0, .slice (some ⟨d+1,0,none⟩) c c,by rw[y.out];rfl,λs bR=>?_,a7.trans (au.below (B:=w.heap.size) a7.size (λk e=>by omega))⟩;have ar:Ac q s (λk=>k=b.heap.size\/k<=w.heap.size):=(au.mono λk _ e=>by omega).trans (bR.mono λk _ e=>by omega);refine⟨?_,⟨[],Cq (λ_=>rfl),rfl,λi x _=>by cases x⟩,?_⟩
 ·have:=b2 s (ar.mono λk _ e=>by rw[b6.out];omega);rw[y.out] at this;rw[<-y.out];rw[<-y.out] at this;exact this
 ·have h0:=ar.owns b5 (λg hb e=>by
   have:d.heap.size+1=g:=by simpa[Value.ownBlock] using hb
   omega)
  exact Xg h0 (AW _ _)
theorem mP(w:World):Calls prog 279 #[.int .i64 1] w λe w'=>∃c,e= .returned (.slice (some ⟨w,0,none⟩) 1 c)/\w'.cell? ⟨w,0,none⟩=some (.int .i64 1)/\w<w'.heap.size/\Below w w w':=by
 obtain⟨i0,g,j,l,m⟩:=BW Ry;have q:IntKind.i64.wrap 0=0:=by decide
 have r:IntKind.i64.wrap 1=1:=by decide
 have s:IntKind.i64.wrap 4=4:=by decide
 have t:IntKind.i64.wrap 5=5:=by decide
 go_enter func279,ntmps279;go_wp2_with (at_make;refine HZ _ rfl _ _ 73 rfl w.heap.size 3 i0 (.int .i64 0) 1 underlying73 g j l .i64 .i64 _ _ 1 rfl rfl rfl rfl (by rw[m];omega) (by simp[maxLen]) (A1 _) ?_)
 intro o a d;have hb:=(A2 w.heap.size w).grown d (A1 _) (λk h=>by cases h);have hl:=AM a _ rfl;obtain⟨f,n⟩:=BQ (i:=0) (v:= .int .i64 0) a (by simp[madeCells]);clear a d;go_wp2_with fail;refine En λK b=>?_;go_wp2_with fail;refine b _ _ ?_;clear b;go_wp2_with fail;go_ret;exact⟨_,rfl,Fw f,by simpa using hl,hb.setCell (p:=⟨w,0,none⟩) (A1 _) _⟩
end Go.Proofs.YtmajkjjjfodhlaaGreatDoor
