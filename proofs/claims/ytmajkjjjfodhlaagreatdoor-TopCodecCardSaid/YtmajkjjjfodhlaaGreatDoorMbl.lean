/- Part Mbl. No condition of its own. -/
import Derived.Test.YtmajkjjjfodhlaaGreatDoorMbk
namespace Go.Proofs.YtmajkjjjfodhlaaGreatDoor
open Go.RowKit Tryz Go.Shelf
set_option linter.all false
set_option maxRecDepth 100000
set_option maxHeartbeats 8000000
def IL(v:Value)(i:Nat):Value:=match v with| .tuple xs=>xs.getD i undef|_=>undef
abbrev Pf:List Value:=[.int .i64 0, .string ⟨#[]⟩, .int .i64 0]
structure FY(X:Nat→Prop)(V:World)(q:Pl)(c:Value)(x x' x'':Option Value)(W:World):Prop where
 low:Below V.heap.size V W
 b1:∀v,x'=some v→∃g,v=Ay g∧V.heap.size≤g∧Aa W g Bz 31
 b2:∀v,x''=some v→∃g,v=Ay g∧V.heap.size≤g∧Aa W g Pf 44
 ok:∀v,x=some v→∃y1 y2 y3 y4 y5 n1 n2 n3 n4 n5 e1 e2 e3 e4 e5,v= .tuple #[AO (.slice y1 n1 e1) (.slice y2 n2 e2) (.slice y3 n3 e3) (.slice y4 n4 e4) (.slice y5 n5 e5) q,c]∧∀W',Ac W W' (fun k=>X k∨x'=some (Ay k)∨x''=some (Ay k))→AH W' (.slice y1 n1 e1) (.slice y2 n2 e2) (.slice y3 n3 e3) (.slice y4 n4 e4) (.slice y5 n5 e5) q
theorem FY.new1{X:Nat->Prop}{b a:World}{q:Pl}{c:Value}{x d:Option Value}(h:FY X b q c x none d a):FY X b q c x (some (Ay a.heap.size)) d (a.alloc (.cells Bz.toArray 31)):=by
 have ha:Below a a (a.alloc (.cells Bz.toArray 31)):=(A2 _ _).alloc (A1 _) _;refine⟨h.low.trans (ha.mono h.low.size),λv e=>⟨a,by injection e with e;exact e.symm,h.low.size,Aa.new a Bz _⟩,λv e=>?_,λv e=>?_⟩
 ·obtain⟨g,h1,h2,h3⟩:=h.b2 v e;exact⟨g,h1,h2,h3.below ha⟩
 ·obtain⟨y,z,A,B,C,r,s,t,u,w,j,k,l,m,n,p,hp⟩:=h.ok v e;refine⟨y,z,A,B,C,r,s,t,u,w,j,k,l,m,n,p,λf o=>hp f (Ac.trans' ((Ai ha).mono λ_ _ e=>e.elim) o λi D hr=>?_)⟩;rcases hr with h|h|h
  ·exact Or.inl h
  ·injection h with h;injection h with h;injection h with h;injection h with h;omega
  ·exact Or.inr (Or.inr h)
theorem FY.new2{X:Nat->Prop}{b a:World}{q:Pl}{c:Value}{x d:Option Value}(h:FY X b q c x d none a):FY X b q c x d (some (Ay a.heap.size)) (a.alloc (.cells Pf.toArray 44)):=by
 have ha:Below a a (a.alloc (.cells Pf.toArray 44)):=(A2 _ _).alloc (A1 _) _;refine⟨h.low.trans (ha.mono h.low.size),λv e=>?_,λv e=>⟨a,by injection e with e;exact e.symm,h.low.size,Aa.new a Pf _⟩,λv e=>?_⟩
 ·obtain⟨g,h1,h2,h3⟩:=h.b1 v e;exact⟨g,h1,h2,h3.below ha⟩
 ·obtain⟨y,z,A,B,C,r,s,t,u,w,j,k,l,m,n,p,hp⟩:=h.ok v e;refine⟨y,z,A,B,C,r,s,t,u,w,j,k,l,m,n,p,λf o=>hp f (Ac.trans' ((Ai ha).mono λ_ _ e=>e.elim) o λi D hr=>?_)⟩;rcases hr with h|h|h
  ·exact Or.inl h
  ·exact Or.inr (Or.inl h)
  ·injection h with h;injection h with h;injection h with h;injection h with h;omega
theorem FY.mine{X:Nat->Prop}{b d:World}{q:Pl}{c:Value}{x f i:Option Value}(h:FY X b q c x f i d)(hb:Cx b X):Cx d (λk=>X k\/f=some (Ay k)\/i=some (Ay k)):=by
 rintro k (hk|hk|hk)
 ·exact⟨B3 (hb k hk).1 h.low.size,λj=>(hb k hk).2.1 (Ic j (hb k hk).1 h.low),IG (hb k hk).2.2 (hb k hk).1 h.low⟩
 ·obtain⟨g,e,_,a⟩:=h.b1 _ hk;injection e with e;injection e with e;injection e with e;subst e;exact⟨a.lt,Cw a (by decide),Fs a⟩
 ·obtain⟨g,e,_,a⟩:=h.b2 _ hk;injection e with e;injection e with e;injection e with e;subst e;exact⟨a.lt,Cw a (by decide),Lh a⟩
theorem FY.gave{X:Nat->Prop}{i b a:World}{q:Pl}{c:Value}{d f:Option Value}(h:FY X i q c none d f b)(hb:Below b b a){m l n p o:Value}(hp:∀j,Ac a j (λk=>X k\/d=some (Ay k)\/f=some (Ay k))->AH j m l n p o q):
 FY X i q c (some (.tuple #[AO m l n p o q,c])) d f a:=by
 refine⟨h.low.trans (hb.mono h.low.size),λv e=>?_,λv e=>?_,λv e=>?_⟩
 ·obtain⟨g,h1,h2,h3⟩:=h.b1 v e;exact⟨g,h1,h2,h3.below hb⟩
 ·obtain⟨g,h1,h2,h3⟩:=h.b2 v e;exact⟨g,h1,h2,h3.below hb⟩
 ·injection e with e;subst e;obtain⟨C,D,E,F,G,x,y,z,A,B,r,s,t,u,w,rfl,rfl,rfl,rfl,rfl⟩:=(hp a (AW _ _)).shape;exact⟨C,D,E,F,G,x,y,z,A,B,r,s,t,u,w,rfl,hp⟩
theorem Yu{w:World}(h:BC w):6<w.heap.size:=by
 rcases BZ 6 w.heap.size with a|a
 ·exact a
 ·have h2:w.cell? ⟨6,15,none⟩=some (.int .u8 4):=h;rw[show w.cell? ⟨6,15,none⟩=none by simp[World.cell?,B8 a]] at h2;cases h2
theorem Ls{w d:World}{R:Nat->Prop}(a:Cx w R)(c:Below w w d):Cx d R:=λb hb=>⟨B3 (a b hb).1 c.size,λh=>(a b hb).2.1 (Ic h (a b hb).1 c),IG (a b hb).2.2 (a b hb).1 c⟩
theorem oD(X:Nat->Prop)(cm S T:ByteArray)(x:Rq)(p q:Pl)(b:Nat)(w:World)(hb:AP X w b p)(c3:Cx w X)(cF:X b)(c1:BC w)(cL:b≠6)
 (cc:∀j,Calls prog 226 #[.string cm] j λe w'=>e= .returned (.tuple #[Cy x, .bool true])/\Below j j w')
 (hdo:∀af ad ag ai ah j R,Cx j R->AH j af ad ag ai ah p->Calls prog 17 #[AO af ad ag ai ah p,Cy x] j λe w'=>∃b8 b7 b9 bc bb,e= .returned (.tuple #[AO b8 b7 b9 bc bb q,De 0 T 0])/\(∀ap,Ac w' ap R->AH ap b8 b7 b9 bc bb q)/\Below j j w')
 (a8:∀j,BC j->Calls prog 227 #[x.op,De 0 T 0] j λe w'=>e= .returned (.string S)/\Below j j w'):
 Calls prog 150 #[.pointer (some ⟨b,0,none⟩), .string cm] w λe w'=>e= .returned (.string S)/\AP X w' b q/\Ac w w' (λk=>k=b):=by
 have cb:=cc w;obtain⟨bO,bT,bN,bV⟩:=Hx4 hdo a8 hb c1;clear cc hdo a8 hb c1;go_enter func150,ntmps150;go_wp2_with fail;refine cb.mono ?_;rintro e l ⟨rfl,a5⟩;have cP:=bN.below a5;have c9:=Ls c3 a5;obtain⟨af,ad,ag,ai,ah,aq,a7⟩:=cP;have cM:b<l.heap.size:=aq.lt;obtain⟨i0,i1,i2,i3,i4,i5,I,J,L,M,a9⟩:=aq.eleven;obtain⟨bR,ao,cr,ay,bX⟩:=Hx5 aq a7 c9 a5 (Fv bV a5);clear cb a5 aq a7 c9 bN bV c3;go_wp2_with fail;have bL:=Aa.new l [x.op, x.vol, x.tv, x.blk, x.n, .string x.text] 39;have aT:=(A2 l.heap.size l).alloc (A1 _) (.cells #[x.op, x.vol, x.tv, x.blk, x.n, .string x.text] 39);refine BM (S:=λa1=>Below (l.alloc (.cells #[x.op, x.vol, x.tv, x.blk, x.n, .string x.text] 39)).drew.heap.size (l.alloc (.cells #[x.op, x.vol, x.tv, x.blk, x.n, .string x.text] 39)).drew a1) (by kernel_rfl) 13 rfl (A2 _ _) (λr=>?_);have hd:=(A2 (l.alloc (.cells #[x.op, x.vol, x.tv, x.blk, x.n, .string x.text] 39)).heap.size (l.alloc (.cells #[x.op, x.vol, x.tv, x.blk, x.n, .string x.text] 39))).drew;have a4:=aT.trans (hd.mono aT.size);have an:=bL.below hd;have aC:=A0 (bR.below a4);have s:b<(l.alloc (.cells #[x.op, x.vol, x.tv, x.blk, x.n, .string x.text] 39)).drew.heap.size:=B3 cM a4.size;obtain⟨C,aF⟩:=Hx2 a4 (Fv bX a4);clear i0 i1 i2 i3 i4 i5 I J L M a9 bL aT hd a4 bR bX;generalize (l.alloc (.cells #[x.op, x.vol, x.tv, x.blk, x.n, .string x.text] 39)).drew=a2 at*;obtain⟨i0,i1,i2,i3,i4,i5,I,J,L,M,a9⟩:=aC.eleven;obtain⟨cg,ch,ci,cj,ck,cl⟩:=an.six;have B:=an.lt;refine Ab 0 r ?_;refine Ab 1 r ?_;refine Ab 2 r ?_;refine Px ?_;have d:∀(a1:World) (g i:Nat) (u:Value),Below a2 a2 a1->g<a2.heap.size->a2.cell? ⟨g,i,none⟩=some u->a1.cell? ⟨g,i,none⟩=some u:=λa1 g i u cx c6 hc=>(cx.cell (p:=⟨g,i,none⟩) c6).trans hc;refine Ab (v:=AO af ad ag ai ah p) 3 r ?_ (hy:=by intro w' c;have cU:=d w' _ _ _ c s i0;have cV:=d w' _ _ _ c s i1;have cX:=d w' _ _ _ c s i2;have d0:=d w' _ _ _ c s i3;have d1:=d w' _ _ _ c s i4;have d2:=d w' _ _ _ c s i5;have e8:=d w' _ _ _ c s I;have e9:=d w' _ _ _ c s J;have ea:=d w' _ _ _ c s L;have eb:=d w' _ _ _ c s M;go_simp);refine Ab (v:=Cy x) 4 r ?_ (hy:=by intro w' c;have cU:=d w' _ _ _ c B cg;have cV:=d w' _ _ _ c B ch;have cX:=d w' _ _ _ c B ci;have d0:=d w' _ _ _ c B cj;have d1:=d w' _ _ _ c B ck;have d2:=d w' _ _ _ c B cl;go_simp);refine Px ?_;refine Yt 5 9 10 #[true,true,true,true,true,true,true,true,true,false,false,false,false] #[true,true,true,true,true,false,false,false,false,true,false,false,false] #[true,true,true,true,true,false,false,false,false,false,true,false,false] #[true,true,true,true,true,true,true,true,true,true,false,false,false] #[true,true,true,true,true,true,true,true,true,false,true,false,false] #[true,true,true,true,true,false,false,false,false,true,true,false,false] #[true,true,true,true,true,true,true,true,true,true,true,false,false] (FY X a2 q (De 0 T 0)) (λv a=>(((a.put (some 27) v).put (some 21) v).put (some 28) (IL v 0)).put (some 29) (IL v 1)) undef undef ⟨A2 _ _,nofun,nofun,nofun⟩ (λ_ _ _ _ h=>h.low) ?_ ?_ ?_ ?_ ?_;focus
  intro bl bp o f K m;go_simp;have cz:=C.trans (f.low.mono C.size);refine(bO af ad ag ai ah o _ (f.mine (Ls cr C)) (ao o ((Ai cz).mono λ_ _ e=>e.elim))).mono ?_;rintro e ek ⟨b8,b7,b9,bc,bb,rfl,cT,cK⟩;exact m _ _ (f.gave cK cT)
 focus
  intro cv bl bp o f K m;go_simp;exact m _ _ f.new1
 focus
  intro cv bl bp o f K m;go_simp;exact m _ _ f.new2
 focus
  rintro X dk cC bl bp v o n f hk;have aP:=f.low;obtain⟨V,W,Y,Z,a0,N,O,P,Q,U,D,E,F,G,H,rfl,_⟩:=f.ok _ rfl;rcases cC with⟨rfl,rfl⟩|⟨rfl,rfl⟩|⟨rfl,rfl⟩|⟨rfl,rfl⟩;all_goals
   refine Ab 6 aP ?_;refine Px ?_;refine Ab 7 aP ?_;refine Ab 8 aP ?_;exact hk
 rintro v ec eg o f;obtain⟨V,W,Y,Z,a0,N,O,P,Q,U,D,E,F,G,H,rfl,a7⟩:=f.ok _ rfl;obtain⟨g,rfl,c6,A⟩:=f.b1 _ rfl;obtain⟨t,rfl,ds,a3⟩:=f.b2 _ rfl;have y:=f.low;have h6:=Yu aF;clear f;have ca:g≠t:=Lr A a3 (by decide);have c5:=aC.below y;have ax:=an.below y;have e4:=B3 B y.size;clear i0 i1 i2 i3 i4 i5 I J L M a9 cg ch ci cj ck cl d r bO aC an ao;have e5:l.heap.size≠g:=λe=>by subst e;exact Lr ax A (by decide) rfl
 have e6:l.heap.size≠t:=λe=>by subst e;exact Lr ax a3 (by decide) rfl
 have dT:=A.lt;have e0:=a3.lt;obtain⟨ao,cs,ct⟩:=Hx3 a7 (Fv aF y) (C.trans (y.mono C.size));clear a7 aF;obtain⟨aj,ak,al,bq,bs,bt,bu,bw,bx,bK⟩:=A.fz10;obtain⟨aa,ab,ac,aV,aX,b0,b3,b4,b5,b6⟩:=A.ten;try simp only[Act.put,OT,HM,G3,IL]
 refine Ao 11 (λK m=>?_);go_simp;obtain⟨c0,ar⟩:=A.put10 (.slice V N D) (.slice W O E) (.int .i64 q.disk.fuse) (.slice Y P F) (.bool q.disk.dead) (.int .i64 q.mt) (.int .i64 q.gen) (.int .i64 q.area) (.slice Z Q G) (.slice a0 U H);refine m _ _ (y.trans (ar.below y.size (λk e=>by omega))) (λr=>?_);clear m K aa ab ac aV aX b0 b3 b4 b5 b6 aj ak al bq bs bt bu bw bx bK;have aK:=ar.blk a3 (λe=>ca e.symm);generalize ((((((((((o.setCell ⟨g,0,none⟩ (.slice V N D)).setCell ⟨g,1,none⟩ (.slice W O E)).setCell ⟨g,2,none⟩ (.int .i64 q.disk.fuse)).setCell ⟨g,3,none⟩ (.slice Y P F)).setCell ⟨g,4,none⟩ (.bool q.disk.dead)).setCell ⟨g,5,none⟩ (.int .i64 q.mt)).setCell ⟨g,6,none⟩ (.int .i64 q.gen)).setCell ⟨g,7,none⟩ (.int .i64 q.area)).setCell ⟨g,8,none⟩ (.slice Z Q G)).setCell ⟨g,9,none⟩ (.slice a0 U H))=cu at*;try simp only[OT,HM,G3]
 refine Ao 12 (λK m=>?_);obtain⟨aa,ab,ac,aj,ak,al⟩:=aK.three;go_simp;obtain⟨aL,au⟩:=aK.put3 (.int .i64 0) (.string T) (.int .i64 0);refine m _ _ (r.trans (au.below r.size (λk e=>by omega))) (λcw=>?_);clear m K aa ab ac aj ak al;have aM:=au.blk c0 ca;generalize (((cu.setCell ⟨t,0,none⟩ (.int .i64 0)).setCell ⟨t,1,none⟩ (.string T)).setCell ⟨t,2,none⟩ (.int .i64 0))=z at*;have av:Ac o z (λk=>k=g\/k=t):=(ar.mono λ_ _ e=>Or.inl e).trans (au.mono λ_ _ e=>Or.inr e);have a6:=av.blk c5 (by omega);have aU:=av.blk ax (by omega);refine Bc (by kernel_rfl) ?_ _;obtain⟨aa,ab,ac,aV,aX,b0,b3,b4,b5,b6⟩:=aM.ten;obtain⟨d3,d4,d5,_,_,_⟩:=aL.three;obtain⟨i0,i1,i2,i3,i4,i5,I,J,L,M,a9⟩:=a6.eleven;obtain⟨aj,ak,al,bq,bs,bt,bu,bw,bx,bK,dc⟩:=a6.fz11;have d6:=aU.cell 0 rfl;obtain⟨cp,bP⟩:=Hx2 a6 av;have dn:b<z.heap.size:=a6.lt;have e1:g<z.heap.size:=aM.lt;have e2:t<z.heap.size:=aL.lt;have e7:l<z.heap.size:=aU.lt;clear A a3 c0 aM aK aL ar au c5 a6 ax aU y r cw av;go_wp2_with fail;obtain⟨h1,g1⟩:=Sj cp (.slice V N D) (.slice W O E) (.int .i64 q.disk.fuse) (.slice Y P F) (.bool q.disk.dead) (.int .i64 q.mt) (.int .i64 q.gen) (.int .i64 q.area) (.slice Z Q G) (.slice a0 U H) _ rfl;have c2:=Ln (Ln cs bP (by omega)) g1 (λe=>cL e.symm);have c7:Ac o (((((((((((z.setCell ⟨b,0,none⟩ (.slice V N D)).setCell ⟨b,1,none⟩ (.slice W O E)).setCell ⟨b,2,none⟩ (.int .i64 q.disk.fuse)).setCell ⟨b,3,none⟩ (.slice Y P F)).setCell ⟨b,4,none⟩ (.bool q.disk.dead)).setCell ⟨b,5,none⟩ (.int .i64 q.mt)).setCell ⟨b,6,none⟩ (.int .i64 q.gen)).setCell ⟨b,7,none⟩ (.int .i64 q.area)).setCell ⟨b,8,none⟩ (.slice Z Q G)).setCell ⟨b,9,none⟩ (.slice a0 U H))) (λk=>k=b\/k=g\/k=t):=(bP.mono λ_ _ e=>Or.inr e).trans (g1.mono λ_ _ e=>Or.inl e);have a8:=bT _ c2;clear bT aa ab ac aV aX b0 b3 b4 b5 b6 d3 d4 d5 i0 i1 i2 i3 i4 i5 I J L M a9 aj ak al bq bs bt bu bw bx bK dc d6;generalize (((((((((((z.setCell ⟨b,0,none⟩ (.slice V N D)).setCell ⟨b,1,none⟩ (.slice W O E)).setCell ⟨b,2,none⟩ (.int .i64 q.disk.fuse)).setCell ⟨b,3,none⟩ (.slice Y P F)).setCell ⟨b,4,none⟩ (.bool q.disk.dead)).setCell ⟨b,5,none⟩ (.int .i64 q.mt)).setCell ⟨b,6,none⟩ (.int .i64 q.gen)).setCell ⟨b,7,none⟩ (.int .i64 q.area)).setCell ⟨b,8,none⟩ (.slice Z Q G)).setCell ⟨b,9,none⟩ (.slice a0 U H)))=dd at*;refine a8.mono ?_;rintro e da ⟨rfl,c4⟩;obtain⟨co,bM,cq⟩:=Hx3 h1 c4 c7;clear a8 h1 g1 c4 c7 c2;go_wp2_with fail;refine A5 (v:= .string S) (by simp[results,results150,go_sem]) rfl ?_;have cy:=ay.trans (ct.mono ay.size);have c8:Ac o da (λk=>k=b\/k=g\/k=t):=cq.trans ((Ai bM).mono λ_ _ e=>e.elim);refine⟨rfl,⟨_,_,_,_,_,co.below bM,λap cS=>ao ap ((c8.mono λk _ e=>?_).trans (cS.mono λ_ _ e=>Or.inl e))⟩,?_⟩
 ·rcases e with e|e|e
  ·exact Or.inl (by rw[e];exact cF)
  ·exact Or.inr (Or.inl (by rw[e]))
  ·exact Or.inr (Or.inr (by rw[e]))
 ·refine Ac.trans' ((Ai cy).mono λ_ _ e=>e.elim) c8 λi e3 e=>?_;have:=ay.size;have:=C.size;rcases e with e|e|e
  ·exact e
  ·omega
  ·omega
theorem oE{P:Program}{l:List Oper}{Q:Exit->Act->World->Prop}{a:Act}{w:World}{S:World->Prop}{t:Nat}{I:Array Bool}{f z o':Oper}(B C y:Nat)(F J G K L:Array Bool)(r:Option Value->Option Value->Option Value->World->Prop)(D:Value->Act->Act)
 (a0:r none none none w)(A:∀x o ak c,r x o ak c->S c)
 (c1:∀o c,r none none o c->∀e:Act->World->Prop,Hid (∀v g,r (some v) none o g->e (((a.put f.dst undef).put o'.dst (o.getD undef)).put f.dst v) g)->if Region.wanted f (yielded l.toArray ((a.put f.dst undef).put o'.dst (o.getD undef)).tmps)=true then Oper.wp P f ((a.put f.dst undef).put o'.dst (o.getD undef)) c e Q else e (((a.put f.dst undef).put o'.dst (o.getD undef)).put f.dst undef) c)
 (c2:∀d o c,r (some d) none o c->∀e:Act->World->Prop,Hid (∀v g,r (some d) (some v) o g->e (((a.put f.dst d).put o'.dst (o.getD undef)).put z.dst v) g)->if Region.wanted z (yielded l.toArray ((a.put f.dst d).put o'.dst (o.getD undef)).tmps)=true then Oper.wp P z ((a.put f.dst d).put o'.dst (o.getD undef)) c e Q else e (((a.put f.dst d).put o'.dst (o.getD undef)).put z.dst undef) c)
 (N:∀b x a4 c,r x a4 none c->∀e:Act->World->Prop,Hid (∀v g,r x a4 (some v) g->e (b.put o'.dst v) g)->if Region.wanted o' (yielded l.toArray b.tmps)=true then Oper.wp P o' b c e Q else e (b.put o'.dst undef) c)
 (W:∀X M,(X=F.setIfInBounds C true/\M=K)\/(X=G.setIfInBounds C true/\M=L)->∀d p o c n,r (some d) (some p) o c->wpAnyH P .any l.toArray Q S n M (D p ((a.put f.dst d).put o'.dst (o.getD undef))) c->wpAnyH P .any l.toArray Q S (n+3) X (((a.put f.dst d).put o'.dst (o.getD undef)).put z.dst p) c)
 (h:∀d p k g,r (some d) (some p) (some k) g->wpAnyH P .any l.toArray Q S t L (D p ((a.put f.dst d).put o'.dst k)) g)
 (a1:l[B]?=some f:=by rfl)(a2:l[C]?=some z:=by rfl)(R:l[y]?=some o':=by rfl)
 (ab:a=(a.put f.dst undef).put o'.dst undef:=by rfl)
 (aa:∀v d E x,(D v ((a.put f.dst d).put o'.dst E)).put o'.dst x=D v ((a.put f.dst d).put o'.dst x):=by intro _ _ _ _;rfl)
 (Z:∀d E x,((a.put f.dst d).put o'.dst E).put f.dst x=(a.put f.dst x).put o'.dst E:=by intro _ _ _;rfl)
 (Y:∀d E x,((a.put f.dst d).put o'.dst E).put o'.dst x=(a.put f.dst d).put o'.dst x:=by intro _ _ _;rfl)
 (h1:I.setIfInBounds B true=F:=by rfl)(h2:I.setIfInBounds y true=J:=by rfl)(a8:F.setIfInBounds y true=G:=by rfl)(a9:J.setIfInBounds B true=G:=by rfl)(h3:K.setIfInBounds y true=L:=by rfl)
 (af:Region.ready .any l.toArray I=[B,y]:=by kernel_rfl)(ag:Region.ready .any l.toArray F=[C,y]:=by kernel_rfl)(ai:Region.ready .any l.toArray J=[B]:=by kernel_rfl)(ah:Region.ready .any l.toArray G=[C]:=by kernel_rfl)(aj:Region.ready .any l.toArray K=[y]:=by kernel_rfl):
 wpAnyH P .any l.toArray Q S (t+6) I a w:=by
 have one:∀(i:Nat) (u:Oper) (n:Nat) (X:Array Bool) (b:Act) (c:World),l[i]?=some u->Region.ready .any l.toArray X=[i]->(∀e:Act->World->Prop,Hid (∀a w,S w->(S w->wpAnyH P .any l.toArray Q S n (X.setIfInBounds i true) a w)->e a w)->if Region.wanted u (yielded l.toArray b.tmps)=true then Oper.wp P u b c e Q else e (b.put u.dst undef) c)->wpAnyH P .any l.toArray Q S (n+1) X b c:=λi u n X b c T U O=>
  HN U (by simp) (He (by simpa using T) (λe m=>O e m) HF)
 have a3:∀(i j:Nat) (u H:Oper) (n:Nat) (X:Array Bool) (b:Act) (c:World),l[i]?=some u->l[j]?=some H->Region.ready .any l.toArray X=[i,j]->(∀e:Act->World->Prop,Hid (∀a w,S w->(S w->wpAnyH P .any l.toArray Q S n (X.setIfInBounds i true) a w)->e a w)->if Region.wanted u (yielded l.toArray b.tmps)=true then Oper.wp P u b c e Q else e (b.put u.dst undef) c)->(∀e:Act->World->Prop,Hid (∀a w,S w->(S w->wpAnyH P .any l.toArray Q S n (X.setIfInBounds j true) a w)->e a w)->if Region.wanted H (yielded l.toArray b.tmps)=true then Oper.wp P H b c e Q else e (b.put H.dst undef) c)->wpAnyH P .any l.toArray Q S (n+1) X b c:=λi j u H n X b c T ad U O ac=>
  HN U (by simp) (He (by simpa using T) (λe m=>O e m) (He (by simpa using ad) (λe m=>ac e m) HF))
 have V:∀d k c,r (some d) none (some k) c->wpAnyH P .any l.toArray Q S (t+4) G ((a.put f.dst d).put o'.dst k) c:=λd k c s=>by
  refine one C z (t+3) _ _ _ a2 ah (λe m=>c2 d (some k) c s e λp g q=>?_);refine m _ _ (A _ _ _ _ q) λ_=>?_;exact W _ _ (Or.inr ⟨rfl,rfl⟩) d p (some k) g t q (h d p k g q)
 have a7:∀d p c,r (some d) (some p) none c->wpAnyH P .any l.toArray Q S (t+1) K (D p ((a.put f.dst d).put o'.dst undef)) c:=λd p c s=>by
  refine one y o' _ _ _ _ R aj (λe m=>N _ _ _ c s e λk g q=>?_);refine m _ _ (A _ _ _ _ q) λ_=>?_;rw[h3,aa];exact h d p k g q
 have a5:∀d c,r (some d) none none c->wpAnyH P .any l.toArray Q S (t+5) F ((a.put f.dst d).put o'.dst undef) c:=λd c s=>by
  refine a3 C y z o' (t+4) _ _ _ a2 R ag (λe m=>c2 d none c s e λp g q=>?_) (λe m=>N _ _ _ c s e λk g q=>?_)
  ·refine m _ _ (A _ _ _ _ q) λ_=>?_;exact W _ _ (Or.inl ⟨rfl,rfl⟩) d p none g (t+1) q (a7 d p g q)
  ·refine m _ _ (A _ _ _ _ q) λ_=>?_;rw[a8,Y];exact V d k g q
 have a6:∀k c,r none none (some k) c->wpAnyH P .any l.toArray Q S (t+5) J ((a.put f.dst undef).put o'.dst k) c:=λk c s=>by
  refine one B f (t+4) _ _ _ a1 ai (λe m=>c1 (some k) c s e λd g q=>?_);refine m _ _ (A _ _ _ _ q) λ_=>?_;rw[a9,Z];exact V d k g q
 rw[ab];refine a3 B y f o' (t+5) _ _ _ a1 R af (λe m=>c1 none w a0 e λd g s=>?_) (λe m=>N _ _ _ w a0 e λk g s=>?_)
 ·refine m _ _ (A _ _ _ _ s) λ_=>?_;rw[h1,Z];exact a5 d g s
 ·refine m _ _ (A _ _ _ _ s) λ_=>?_;rw[h2,Y];exact a6 k g s
theorem oF(w:World):Calls prog 365 #[.int .i64 2] w λe w'=>e= .returned (.string ⟨#[50]⟩)/\w'=w:=by
 go_enter func365,ntmps365;go_wp2_with fail;refine A5 (v:= .string ⟨#[50]⟩) (by simp[results,results365,go_sem];rfl) rfl ?_;exact⟨rfl,rfl⟩
theorem oG(w:World):Calls prog 326 #[.int .i64 2, .int .i64 10] w λe w'=>e= .returned (.string ⟨#[50]⟩)/\w'=w:=by
 have h:=oF w;go_enter func326,ntmps326;go_wp2_with fail;refine h.mono ?_;rintro e w' ⟨rfl,rfl⟩;go_wp2_with fail;refine A5 (v:= .string ⟨#[50]⟩) (by simp[results,results326,go_sem]) rfl ?_;exact⟨rfl,rfl⟩
theorem oH(w:World):Calls prog 283 #[.int .i64 2] w λe w'=>e= .returned (.string ⟨#[50]⟩)/\w'=w:=by
 have h:=oG w;go_enter func283,ntmps283;go_wp2_with fail;refine h.mono ?_;rintro e w' ⟨rfl,rfl⟩;go_wp2_with fail;refine A5 (v:= .string ⟨#[50]⟩) (by simp[results,results283,go_sem]) rfl ?_;exact⟨rfl,rfl⟩
theorem Yv(w:World):Calls prog 222 #[.int .i64 2] w λe w'=>e= .returned (.string ⟨#[50]⟩)/\w'=w:=by
 have h:=oH w;go_enter func222,ntmps222;go_wp2_with fail;refine h.mono ?_;rintro e w' ⟨rfl,rfl⟩;go_wp2_with fail;refine A5 (v:= .string ⟨#[50]⟩) (by simp[results,results222,go_sem]) rfl ?_;exact⟨rfl,rfl⟩
structure Gq(X:Nat→Prop)(V:World)(d:Dk)(vs:List Vl)(x1 x2 x':Option Value)(W:World):Prop where
 low:Below V.heap.size V W
 b1:∀v,x'=some v→∃g,v=Ay g∧V.heap.size≤g∧Aa W g Bz 31
 dsk:∀v,x1=some v→∃ak ck,v=Bm (.slice ak d.kept.length ck) (.slice none 0 0) (.slice none 0 0) (Cf d)∧By W (.slice ak d.kept.length ck) (.slice none 0 0) (.slice none 0 0) (Cf d)
 ok:∀v,x2=some v→∃y1 y2 y3 y4 y5 n1 n2 n3 n4 n5 e1 e2 e3 e4 e5,v= .tuple #[AO (.slice y1 n1 e1) (.slice y2 n2 e2) (.slice y3 n3 e3) (.slice y4 n4 e4) (.slice y5 n5 e5) (C5 (Cf d) 4 2 1 vs 2), .int .i64 0]∧∀W',Ac W W' (fun k=>X k∨x'=some (Ay k))→AH W' (.slice y1 n1 e1) (.slice y2 n2 e2) (.slice y3 n3 e3) (.slice y4 n4 e4) (.slice y5 n5 e5) (C5 (Cf d) 4 2 1 vs 2)
theorem Gq.new1{X:Nat->Prop}{b a:World}{d:Dk}{vs:List Vl}{c f:Option Value}(h:Gq X b d vs c f none a):Gq X b d vs c f (some (Ay a.heap.size)) (a.alloc (.cells Bz.toArray 31)):=by
 have ha:Below a a (a.alloc (.cells Bz.toArray 31)):=(A2 _ _).alloc (A1 _) _;refine⟨h.low.trans (ha.mono h.low.size),λv e=>⟨a,by injection e with e;exact e.symm,h.low.size,Aa.new a Bz _⟩,λv e=>?_,λv e=>?_⟩
 ·obtain⟨j,k,h1,h2⟩:=h.dsk v e;exact⟨j,k,h1,h2.below ha⟩
 ·obtain⟨y,z,A,B,C,s,t,u,w,x,l,m,n,o,p,r,hp⟩:=h.ok v e;refine⟨y,z,A,B,C,s,t,u,w,x,l,m,n,o,p,r,λg q=>hp g (Ac.trans' ((Ai ha).mono λ_ _ e=>e.elim) q λi D hr=>?_)⟩;rcases hr with h|h
  ·exact Or.inl h
  ·injection h with h;injection h with h;injection h with h;injection h with h;omega
theorem Gq.mine{X:Nat->Prop}{b c:World}{d:Dk}{vs:List Vl}{j l f:Option Value}(h:Gq X b d vs j l f c)(hb:Cx b X):Cx c (λk=>X k\/f=some (Ay k)):=by
 rintro k (hk|hk)
 ·exact⟨B3 (hb k hk).1 h.low.size,λi=>(hb k hk).2.1 (Ic i (hb k hk).1 h.low),IG (hb k hk).2.2 (hb k hk).1 h.low⟩
 ·obtain⟨g,e,_,a⟩:=h.b1 _ hk;injection e with e;injection e with e;injection e with e;subst e;exact⟨a.lt,Cw a (by decide),Fs a⟩
theorem Gq.gave1{X:Nat->Prop}{i a b:World}{d:Dk}{vs:List Vl}{j:Option Value}(h:Gq X i d vs none none j a)(hb:Below a a b){c:Option Addr}{f:Nat}(hd:By b (.slice c d.kept.length f) (.slice none 0 0) (.slice none 0 0) (Cf d)):
 Gq X i d vs (some (Bm (.slice c d.kept.length f) (.slice none 0 0) (.slice none 0 0) (Cf d))) none j b:=by
 refine⟨h.low.trans (hb.mono h.low.size),λv e=>?_,λv e=>?_,λv e=>?_⟩
 ·obtain⟨g,h1,h2,h3⟩:=h.b1 v e;exact⟨g,h1,h2,h3.below hb⟩
 ·injection e with e;exact⟨c,f,e.symm,hd⟩
 ·cases e
theorem Gq.gave2{X:Nat->Prop}{f b a:World}{d:Dk}{vs:List Vl}{p c:Option Value}(h:Gq X f d vs p none c b)(hb:Below b b a){l j m o n:Value}(hp:∀i,Ac a i (λk=>X k\/c=some (Ay k))->AH i l j m o n (C5 (Cf d) 4 2 1 vs 2)):
 Gq X f d vs p (some (.tuple #[AO l j m o n (C5 (Cf d) 4 2 1 vs 2), .int .i64 0])) c a:=by
 refine⟨h.low.trans (hb.mono h.low.size),λv e=>?_,λv e=>?_,λv e=>?_⟩
 ·obtain⟨g,h1,h2,h3⟩:=h.b1 v e;exact⟨g,h1,h2,h3.below hb⟩
 ·obtain⟨q,r,h1,h2⟩:=h.dsk v e;exact⟨q,r,h1,h2.below hb⟩
 ·injection e with e;subst e;obtain⟨D,E,F,G,H,y,z,A,B,C,s,t,u,w,x,rfl,rfl,rfl,rfl,rfl⟩:=(hp a (AW _ _)).shape;exact⟨D,E,F,G,H,y,z,A,B,C,s,t,u,w,x,rfl,hp⟩
theorem oI(X:Nat->Prop)(a:Option Addr)(c:Nat)(p:Pl)(vs:List Vl)(b:Nat)(w:World)(hb:AP X w b p)(b0:Cx w X)(bT:X b)(b7:p.mt=4)(aa:Bd p.disk)(bX:p.disk.keep.length<=10000000)(a9:Pa (Cf p.disk) 4 2 2 1 vs):
 Calls prog 146 #[.pointer (some ⟨b,0,none⟩), .slice a 0 c] w λe w'=>e= .returned (.string ⟨#[111,107,32,50]⟩)/\AP X w' b (C5 (Cf p.disk) 4 2 1 vs 2)/\Ac w w' (λk=>k=b):=by
 have b6:=b0;obtain⟨bc,bb,bl,cw,cu,a2,t⟩:=hb;have b3:b<w.heap.size:=a2.lt;obtain⟨i0,i1,i2,i3,i4,i5,ac,ad,af,ag,ab⟩:=a2.eleven;rw[b7] at i5;obtain⟨aU,Y,bu,c8,c7,aX,aV⟩:=Hx7 a2 t b6 aa a9 (λq (c2:Below w w q)=>kX bc bb bl p.disk q (t q ((Ai c2).mono λ_ _ e=>e.elim)).disk aa bX) (λZ a0 q R bN hd=>Yc (.slice Z p.disk.kept.length a0) (.slice none 0 0) (.slice none 0 0) (Cf p.disk) 4 2 2 1 vs R q bN hd a9);clear a2 t b6 aa a9 b7 b0;go_enter func146,ntmps146;go_wp2_with fail;refine BM (S:=λy=>Below w.drew.heap.size w.drew y) (by kernel_rfl) 18 rfl (A2 _ _) (λf=>?_);have G:=(A2 w.heap.size w).drew;have a4:=A0 (aU.below G);have s:b<w.drew.heap.size:=B3 b3 G.size;have r:=A0 G;have b8:w.drew.cell? ⟨b,5,none⟩=some (.int .i64 4):=(G.cell (p:=⟨b,5,none⟩) b3).trans i5;clear i0 i1 i2 i3 i4 i5 ac ad af ag ab G aU;generalize w.drew=z at*;obtain⟨i0,i1,i2,i3,i4,_,_,_,_,_,_⟩:=a4.eleven;refine Ab 0 f ?_;refine Ab 1 f ?_;refine Ab 2 f ?_;refine Ab 3 f ?_;refine Px ?_;have o:∀(y:World) (g i:Nat) (u:Value),Below z z y->g<z.heap.size->z.cell? ⟨g,i,none⟩=some u->y.cell? ⟨g,i,none⟩=some u:=λy g i u bO b4 hc=>(bO.cell (p:=⟨g,i,none⟩) b4).trans hc;refine Ab (v:=Bm bc bb bl p.disk) 4 f ?_ (hy:=by intro w' m;have cj:=o w' _ _ _ m s i0;have ck:=o w' _ _ _ m s i1;have cl:=o w' _ _ _ m s i2;have cm:=o w' _ _ _ m s i3;have co:=o w' _ _ _ m s i4;go_simp);refine Ab 6 f ?_;refine Ab 7 f ?_;refine Ab 8 f ?_;refine Ab 9 f ?_;refine Px ?_;refine Ab (v:= .int .i64 4) 10 f ?_ (hy:=by intro w' m;have cp:=o w' _ _ _ m s b8;go_simp;try with_reducible rfl);refine Px ?_;refine oE 5 11 15 #[true,true,true,true,true,true,true,true,true,true,true,false,false,false,false,false,false,false] #[true,true,true,true,true,false,true,true,true,true,true,false,false,false,false,true,false,false] #[true,true,true,true,true,true,true,true,true,true,true,false,false,false,false,true,false,false] #[true,true,true,true,true,true,true,true,true,true,true,true,true,true,true,false,false,false] #[true,true,true,true,true,true,true,true,true,true,true,true,true,true,true,true,false,false] (Gq X z p.disk vs) (λv a=>(((a.put (some 27) v).put (some 15) v).put (some 28) (IL v 0)).put (some 29) (IL v 1)) ⟨A2 _ _,nofun,nofun,nofun⟩ (λ_ _ _ _ h=>h.low) ?_ ?_ ?_ ?_ ?_;focus
  intro bp j d K l;go_simp;have bP:=r.trans (d.low.mono r.size);refine(aX j bP).mono ?_;rintro e c5 ⟨Z,a0,rfl,c0,a8⟩;exact l _ _ (d.gave1 a8 (MC ⟨c0,C2 _ _ _ _,C2 _ _ _ _⟩))
 focus
  intro b9 bp j d K l;obtain⟨Z,a0,rfl,hd⟩:=d.dsk _ rfl;go_simp;refine(aV Z a0 j _ (d.mine (Ls bu r)) hd).mono ?_;rintro e c5 ⟨cs,cr,ct,cx,cv,rfl,c1,a8⟩;exact l _ _ (d.gave2 a8 c1)
 focus
  intro ca x cz j d K l;go_simp;exact l _ _ d.new1
 focus
  rintro X c9 bR b9 c4 bp j n d hk;have a7:=d.low;obtain⟨P,T,U,V,W,J,L,M,N,O,A,B,C,D,E,rfl,_⟩:=d.ok _ rfl;rcases bR with⟨rfl,rfl⟩|⟨rfl,rfl⟩;all_goals
   refine Ab 12 a7 ?_;refine Px ?_;refine Ab 13 a7 ?_;refine Ab 14 a7 ?_;exact hk
 rintro b9 c4 cq j d;obtain⟨P,T,U,V,W,J,L,M,N,O,A,B,C,D,E,rfl,t⟩:=d.ok _ rfl;obtain⟨g,rfl,b4,F⟩:=d.b1 _ rfl;have H:=d.low;clear d;have b2:=a4.below H;clear i0 i1 i2 i3 i4 b8 o f aX aV a4 Y;have cc:=F.lt;obtain⟨Y,bx⟩:=Hx2 t (r.trans (H.mono r.size));clear t;obtain⟨Q,a1⟩:∃Q,Q=C5 (Cf p.disk) 4 2 1 vs 2:=⟨_,rfl⟩;have bM:Q.gen=2:=by rw[a1];rfl
 rw[<-a1] at Y⊢;have bw:=A0 a1;clear a1;obtain⟨au,av,ax,ay,aC,aF,aK,aL,aM,aP⟩:=F.fz10;obtain⟨ah,ai,aj,ak,al,an,ao,ap,aq,ar⟩:=F.ten;try simp only[Act.put,OT,HM,G3,IL]
 refine Ao 16 (λK l=>?_);go_simp;obtain⟨a6,a3⟩:=F.put10 (.slice P J A) (.slice T L B) (.int .i64 Q.disk.fuse) (.slice U M C) (.bool Q.disk.dead) (.int .i64 Q.mt) (.int .i64 2) (.int .i64 Q.area) (.slice V N D) (.slice W O E);refine l _ _ (H.trans (a3.below H.size (λk e=>by omega))) (λf=>?_);clear l K ah ai aj ak al an ao ap aq ar au av ax ay aC aF aK aL aM aP;have I:=a3.blk b2 (by omega);generalize ((((((((((j.setCell ⟨g,0,none⟩ (.slice P J A)).setCell ⟨g,1,none⟩ (.slice T L B)).setCell ⟨g,2,none⟩ (.int .i64 Q.disk.fuse)).setCell ⟨g,3,none⟩ (.slice U M C)).setCell ⟨g,4,none⟩ (.bool Q.disk.dead)).setCell ⟨g,5,none⟩ (.int .i64 Q.mt)).setCell ⟨g,6,none⟩ (.int .i64 2)).setCell ⟨g,7,none⟩ (.int .i64 Q.area)).setCell ⟨g,8,none⟩ (.slice V N D)).setCell ⟨g,9,none⟩ (.slice W O E))=a5 at*;try simp only[OT,HM,G3]
 refine Ab 17 f ?_;refine Px ?_;refine Bc (by kernel_rfl) ?_ _;obtain⟨ah,ai,aj,ak,al,an,ao,ap,aq,ar⟩:=a6.ten;obtain⟨i0,i1,i2,i3,i4,i5,ac,ad,af,ag,ab⟩:=I.eleven;obtain⟨au,av,ax,ay,aC,aF,aK,aL,aM,aP,c6⟩:=I.fz11;obtain⟨bs,bt⟩:=Hx2 I a3;have cb:b<a5.heap.size:=I.lt;have cg:g<a5.heap.size:=a6.lt;have ci:b≠g:=by omega
 clear F a6 a3 b2 I H f;have c3:=λq=>Yv q;go_wp2_with fail;obtain⟨h1,g1⟩:=Sj bs (.slice P J A) (.slice T L B) (.int .i64 Q.disk.fuse) (.slice U M C) (.bool Q.disk.dead) (.int .i64 Q.mt) (.int .i64 2) (.int .i64 Q.area) (.slice V N D) (.slice W O E) _ rfl;have h2:=h1.set 10 (.bool true);have g2:=g1.trans (Ad _ b 10 (.bool true));clear h1 g1 ah ai aj ak al an ao ap aq ar i0 i1 i2 i3 i4 i5 ac ad af ag ab au av ax ay aC aF aK aL aM aP c6;generalize World.setCell (((((((((((a5.setCell ⟨b,0,none⟩ (.slice P J A)).setCell ⟨b,1,none⟩ (.slice T L B)).setCell ⟨b,2,none⟩ (.int .i64 Q.disk.fuse)).setCell ⟨b,3,none⟩ (.slice U M C)).setCell ⟨b,4,none⟩ (.bool Q.disk.dead)).setCell ⟨b,5,none⟩ (.int .i64 Q.mt)).setCell ⟨b,6,none⟩ (.int .i64 2)).setCell ⟨b,7,none⟩ (.int .i64 Q.area)).setCell ⟨b,8,none⟩ (.slice V N D)).setCell ⟨b,9,none⟩ (.slice W O E))) ⟨b,10,none⟩ (.bool true)=bL at*;have bq:=A0 h2;have b5:Ac j bL (λk=>k=b\/k=g):=(bt.mono λ_ _ e=>Or.inr e).trans (g2.mono λ_ _ e=>Or.inl e);have aT:=A0 b5;clear h2 g2 b5 c3;refine(Yv _).mono ?_;rintro e cy ⟨rfl,rfl⟩;go_wp2_with fail;refine A5 (v:= .string ⟨#[111,107,32,50]⟩) (by simp[results,results146,go_sem];rfl) rfl ?_;refine⟨rfl,?_,?_⟩
 ·rw[<-bw.out];refine⟨_,_,_,_,_,by unfold Yi;rw[bM];exact bq,λbK bV=>Y bK ((aT.mono λk _ e=>?_).trans (bV.mono λ_ _ e=>Or.inl e))⟩;rcases e with e|e
  ·exact Or.inl (by rw[e];exact bT)
  ·exact Or.inr (by rw[e])
 ·refine Ac.trans' ((Ai bx).mono λ_ _ e=>e.elim) aT λi ch e=>?_;have:=r.size;rcases e with e|e
  ·exact e
  ·omega
def DX(p:Pl)(a:List (Int×Int)):List MB:=a.map λq=>(q.1,EE (BO p q.2) (rP q.2))
def IM(p:Pl)(vs:List Vl):List MV:=vs.map λv=>(v.1,v.2.1,DX p (v.2.2))
def Jw(p:Pl):List MV:=IM p p.vols
theorem Sk(p:Pl)(a:List (Int×Int)):(DX p a).length=a.length:=by simp[DX]
theorem oJ(D C E aU F:Value)(p:Pl)(w:World)(hp:AH w D C E aU F p)(U:AR p)(ar:p.disk.dead=false)(bO:Gm p):
 Calls prog 284 #[AO D C E aU F p] w λe w'=>∃v,e= .returned v/\Fc w.heap.size w' v (Jw p)/\Below w w w':=by
 obtain⟨i0,cx,cK,cL,cM⟩:=BW RW;obtain⟨i1,cy,cP,cS,cT⟩:=BW RY;have L:=U.vols;have aP:CU w aU p.vols:=hp.vols;have cq:=A0 aP;have cj:Hid (D5 p.vols):=L;have hl:p.vols.length<=64:=L.len;obtain⟨a0,c0,rfl⟩:=Fy aP;have cl:=A0 (λv (hm:v∈p.vols) q (a9:q∈v.2.2) r (A:Below w w r)=>(by
  have hc:=OP hm a9;have bt:=U.slots.of q.2 hc;have:=Xk D C E (.slice a0 p.vols.length c0) F p q.2 r (hp.below A) U ar bt.1 bt.2;rw[bO q.2 (H3.1 hc)] at this;exact this:Calls prog 194 #[AO D C E (.slice a0 p.vols.length c0) F p, q.2] r λe w'=>e= .returned (.tuple #[.string (EE (BO p q.2) (rP q.2)), .bool true])/\Below r r w'))
 have bx:=λr A=>O5 D C E (.slice a0 p.vols.length c0) F p r (hp.below A) U;have A:=Aa.new w [D,C, p.disk.fuse,E, .bool p.disk.dead, p.mt, p.gen, p.area, .slice a0 p.vols.length c0,F] 31;have ao:=(A2 w.heap.size w).alloc (A1 _) (.cells #[D,C, p.disk.fuse,E, .bool p.disk.dead, p.mt, p.gen, p.area, .slice a0 p.vols.length c0,F] 31);obtain⟨b7,b4⟩:=Hx2 A ao;have bw:=bx _ ao;have cg:=A0 ar;clear hp aP L U bO A ao bx ar;go_enter func284,ntmps284;go_wp2_with fail;refine bw.mono ?_;rintro e e1 ⟨rfl,a3⟩;obtain⟨ad,b5⟩:=Hx2 (b7.below a3) (b4.trans (a3.mono (by simp)));have cF:w.heap.size+1<=e1.heap.size:=by have:=a3.size;simpa using this
 obtain⟨_,_,_,_,f4,_,_,_,cv,_⟩:=ad.ten;rw[cg.out] at f4;clear a3 bw b7 b4;go_wp2_with fail;clear f4;clear cv;go_loopw [3,22] (λe0 M wr=>∃(k n:Nat) (a:Option Addr) (c:Nat),M= .int .i64 (k:Int)/\e0= .slice a n c/\k<=p.vols.length/\Hid (n=k)/\Fc w.heap.size wr (.slice a n c) (IM p (p.vols.take k))/\Aa wr w.heap.size [D,C, p.disk.fuse,E, .bool p.disk.dead, p.mt, p.gen, p.area, .slice a0 p.vols.length c0,F] 31/\Below w w wr) (λ_ M _=>p.vols.length-(intOf M).toNat)
 case atStart=>exact⟨0,0,none,0,rfl,rfl,A7 _,rfl,XS _ _,ad,b5⟩
 case round=>
  clear b5 ad cF;generalize wr=f at*;obtain⟨k,n,a,c,rfl,rfl,hk,ag,V,aq,hb⟩:=hrel;have Z:=A0 aq;have e4:=aq.lt;obtain⟨ai,aj⟩:=Hx2 V hb;have aM:=hb.size;by_cases a7:k<p.vols.length
  ·obtain⟨b,off,⟨⟨c6,c3,bX⟩,⟨c7,c4,c1⟩,⟨c8,c5,c2⟩⟩,R,e3,Q,a2,b9,bb,bc,bK⟩:=GX (EJ cq hb) a7;subst R;have L:=cj.ok p.vols[k] (BA a7);have cp:Hid (IM p (p.vols.take (k+1))=IM p (p.vols.take k)++[(p.vols[k].1,p.vols[k].2.1,DX p (p.vols[k].2.2))]):=by
    unfold Hid IM;rw[B1 a7,D1];rfl
   have aF:=L.len;have b3:=A0 (cl p.vols[k] (BA a7));have aT:=λ(r:World) (A:Below f f r)=>KE bK 0 p.vols[k].2.1 (JF L (E4 _) (E4 _)) r A;generalize p.vols[k]=y at*;obtain⟨h,i,d⟩:=y;dsimp only at Q a2 aT aF b3;dsimp only[sv] at b9 bb bc;have cw:(k:Int)<(p.vols.length:Int):=by omega
   have g1:(0:Int)<=(k:Int):=by omega
   have HWalk:=A0 aT;clear hb L bK aT V aq;go_wp2_with fail;have R:=(A2 f.heap.size f).alloc (A1 _) (.cells #[h, i, .slice c6 c3 bX, .slice c7 c4 c1, .slice c8 c5 c2] 78);have P:=R.alloc R.size (.cells #[h, i, .slice none 0 0] 84);have u:=Aa.new (f.alloc (.cells #[h, i, .slice c6 c3 bX, .slice c7 c4 c1, .slice c8 c5 c2] 78)) [h, i, .slice none 0 0] 84;simp only[Bx] at u;refine(HWalk _ P).mono ?_;rintro e ec ⟨ct,cu,rfl,o,a4⟩;obtain⟨b6,G,H⟩:=Hx3 (P.trans (a4.mono P.size)) (u.below a4) (Hm o P.size);have e9:=aF;obtain⟨cm,e2⟩:=Hx2 (λq (a9:q∈d)=>b3 q a9) ((Z.below P).below a4);clear R P u a4 o HWalk Q a2 b9 bb bc aF;generalize bp:d.length=I at*;have ah:=A0 bp;clear bp;go_wp2_with fail;go_loopw [37] (λM ac=>∃(j:Nat) (s:Option Addr) (t:Nat),M= .int .i64 (j:Int)/\j<=I/\Aa ac (f+1) [h, i, .slice s j t] 84/\ac.ownsRow (f+2) 106 2 (.slice s j t) j (Af BR (DX p (d.take j)))/\
    ac.ownsRow f.heap.size 113 2 (.slice ct I cu) I (Af Cz d)/\Below f f ac) (λM _=>I-(intOf M).toNat)
   case atStart=>
    exact⟨0,none,0,rfl,A7 _,G,C2 _ _ _ _,H,b6⟩
   case round=>
    clear G H b6;obtain⟨j,s,t,rfl,e5,u,W,o,a5⟩:=hrel;obtain⟨N,H,x,G⟩:=Hx4 W o a5 u;have bl:=a5.size;have e6:=u.lt;obtain⟨f0,f1,f2,_,_,_⟩:=u.three;by_cases cC:j<I
    ·have T:j<d.length:=by rw[ah.out];exact cC
     obtain⟨q,rfl,a9⟩:=EM o (by omega);have e8:=AM o q rfl;have bq:=DB DL d j T 0 (by omega);have bs:=DB DL d j T 1 (by omega);have an:DX p (d.take (j+1))=DX p (d.take j)++[(d[j].1,EE (BO p d[j].2) (rP d[j].2))]:=by
      unfold DX;rw[B1 T,D1];rfl
     have aK:=cm d[j] (BA T);generalize d[j]=da at*;obtain⟨pk,X⟩:=da;dsimp only at an aK;have Q:=(BQ o (bq.trans (show _=some (Value.int .i64 pk) from rfl))).1;have a2:=(BQ o (bs.trans (show _=some (Value.int .i64 X) from rfl))).1;simp only[Hb] at Q;generalize EE (BO p X) (rP X)=ab at*;have co:=A0 an;have cw:(j:Int)<(I:Int):=by omega
     have g1:(0:Int)<=(j:Int):=by omega
     have z:=(A2 wr.heap.size wr).alloc (A1 _) (.cells #[pk, X] 113);have ak:=A0 z;have bP:=aK _ (((aj.trans (x.mono aM))).trans (z.mono (A8 aM bl)));have bV:=(Z.below x).below z;obtain⟨cU,cV,cX,d0,d1,d2,d3,d4,d5,d6⟩:=bV.ten;clear bq bs an W o a5 T f0 f1 f2 u z aK bV;go_wp2_with fail;refine bP.mono ?_;rintro e aV ⟨rfl,ap⟩;have a6:=ak.trans (ap.mono ak.size);have bM:=(Aa.new wr [pk, X] 113).below ap;have dc:=bM.cell 0 (v:= .int .i64 pk) rfl;obtain⟨f0,f1,f2,_,_,_⟩:=(G.below a6).three;have O:=a6.alloc a6.size (.cells #[pk, .string ab] 106);obtain⟨b2,b0,b1,aX⟩:=Hx4 (Ag N O) (G.below O) (Ag H O) (x.trans (O.mono bl));have ea:=O.size;have b8:=A0 (MS aV (BR (pk,ab)) 106);have cz:f.heap.size+2<=(aV.alloc (.cells #[pk, .string ab] 106)).heap.size:=by omega
     clear O bP ap a6 bM ak cU cV cX d0 d1 d2 d3 d4 d5 d6;go_wp2_with (at_builtin;refine F0 _ rfl _ _ 82 rfl (f+2) 106 i1 (.agg #[.int .i64 0, .string ⟨#[]⟩]) 2 24 underlying82 cy cP cS cT rfl (by decide) (.slice s j t) j _ rfl b2 ⟨aV,0,none⟩ 1 1 (BR (pk,ab)) rfl rfl b8 (IC.one _) (by simp[maxLen];omega) (by omega) cz ?_;intro dT Y K J aC ay;obtain⟨l,m,rfl,_,_⟩:=Aw K;have a8:=b0.grown J (λe=>by have:=Ah N _ e.symm;omega);obtain⟨dd,t1,t2,dk,dn,ds⟩:=a8.three)
     have bR:Y.ownsRow (f+2) 106 2 (.slice l (j+1) m) (j+1) (Af BR (DX p (d.take (j+1)))):=by
      rw[co.out,JA];exact K
     have al:=Mq b1 J (λg av=>Cn H N (by decide) g av);have z:=aX.grown J (by omega) (λb hb=>by have:=Ah N b hb;omega);have ax:=Ad Y (f+1) 2 (.slice l (j+1) m);obtain⟨c9,ca⟩:=Hx2 (show Aa (Y.setCell ⟨f+1,2,none⟩ (.slice l (j+1) m)) (f+1) [h, i, .slice l (j+1) m] 84 from a8.set 2 (.slice l (j+1) m)) (Ak bR (show f.heap.size+1<f.heap.size+2 by omega) 2 (.slice l (j+1) m));have cb:=A0 (ax.owns al (λb hb e=>by
      subst e;exact Gh al a8 (by decide) hb.symm))
     have cc:=A0 (z.trans (ax.below (B:=f.heap.size) z.size (λb hb=>by omega)));clear K J aC ay a8 dd t1 t2 dk dn ds bR al z ax Q a2 f0 f1 f2 dc b2 b0 b1 aX N H G b8;go_wp2_with fail;exact⟨⟨j+1,l,m,rfl,by omega,c9,ca,cb,cc⟩,by simp[intOf];omega⟩
    ·obtain rfl:j=I:=by omega
     have hd:decide ((j:Int)<(j:Int))=false:=A6 (by omega);have bL:=Kt ai x;have bu:(IM p (p.vols.take k)).length=n:=by rw[ag.out];unfold IM;rw[B4,B5];omega
     obtain⟨eb,aa,aL⟩:=XT bL;rw[bu] at aa aL;have e7:n<=64:=by have:=ag.out;omega
     obtain⟨a1,HStep,bN⟩:=Hx3 aa aL (aa.alloc (.cells #[h, i, .slice s j t] 84));have bT:d.take j=d:=by rw[<-ah.out];exact E2 (A1 _)
     have af:Hid (wr.ownsRow w.heap.size 106 2 (.slice s j t) (DX p (d)).length (Af BR (DX p (d)))):=by
      unfold Hid;rw[Sk,ah.out];rw[bT] at W;exact Hm W (by omega)
     clear bL aa aL W o a5 u bT ai bu;go_wp2_with (at_builtin;refine F0 _ rfl _ _ 56 rfl w.heap.size 84 i0 (.agg #[.int .i64 0, .int .i64 0, .slice none 0 0]) 3 40 underlying56 cx cK cL cM rfl (by decide) (.slice a n c) n _ rfl bN ⟨wr,0,none⟩ 1 1 (Ej (h,i,(s,j,t))) rfl rfl (XU _ _ _ _ _) (Gl.one _) (by simp[maxLen];omega) (by omega) (by simp;omega) ?_)
     intro dT Y K J aC ay;have S:=(AZ wr (.cells #[h, i, .slice s j t] 84) (λk=>some k=(Value.slice a n c).ownBlock)).trans (Gs J);obtain⟨l,m,rfl,_,_⟩:=Aw K;have au:=HStep Y (.slice l (n+1) m) (h,i,(s,j,t)) (h,i,DX p (d)) S K rfl rfl (S.owns af (λg av hr=>Cn af a1 (by decide) g av hr));rw[<-cp.out] at au;obtain⟨ch,cr⟩:=Hx2 au ((aj.trans (x.mono aM)).trans (S.below (B:=w.heap.size) (by omega) (λb hb=>Ah a1 b hb.symm)));have ci:Hid (n+1=k+1):=by have:=ag.out;unfold Hid;omega
     have cs:=A0 (Gt (Z.below x) S λhb=>Gh a1 (Z.below x) (by decide) hb);clear K J aC ay S au bN a1 HStep af x N H G f0 f1 f2;go_wp2_with fail;exact⟨⟨k+1,n+1,l,m,rfl,rfl,by omega,ci,ch,cs,cr⟩,by simp[intOf];omega⟩
  ·obtain rfl:k=p.vols.length:=by omega
   have hd:decide ((p.vols.length:Int)<(p.vols.length:Int))=false:=A6 (by omega);rw[D4] at V;have ck:=A0 V;clear V hb ai;go_wp2_with fail;go_ret;exact⟨_,rfl,ck,aj⟩
end Go.Proofs.YtmajkjjjfodhlaaGreatDoor
