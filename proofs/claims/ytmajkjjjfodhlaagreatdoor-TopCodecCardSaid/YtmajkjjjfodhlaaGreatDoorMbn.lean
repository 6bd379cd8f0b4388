/- Part Mbn. No condition of its own. -/
import Derived.Test.YtmajkjjjfodhlaaGreatDoorMbm
namespace Go.Proofs.YtmajkjjjfodhlaaGreatDoor
open Go.RowKit Tryz Go.Shelf
set_option linter.all false
set_option maxRecDepth 100000
set_option maxHeartbeats 8000000
abbrev Cp(T:ByteArray):List Value:=[.int .i64 0, .string T, .int .i64 0]
def Gr(ts:List ByteArray)(m:Nat):List Value:=ts.flatMap Cp++(List.replicate m ⟨#[]⟩).flatMap Cp
theorem Ph(ts:List ByteArray):(ts.flatMap Cp).length=ts.length*3:=by
 induction ts with
 |nil=>rfl
 |cons t ts a=>rw[G8,A9,a];simp only[BV,C4];omega
theorem o8(ts:List ByteArray)(m:Nat)(T:ByteArray):(((Gr ts (m+1)).set (ts.length*3) (.int .i64 0)).set (ts.length*3+1) (.string T)).set (ts.length*3+2) (.int .i64 0)=Gr (ts++[T]) m:=by
 unfold Gr;rw[N9,G8,HB];have e:=Ph ts;rw[<-e,PL _ _ (A1 _),Hr,PL _ _ (by omega),show(ts.flatMap Cp).length+1-(ts.flatMap Cp).length=1 by omega,PL _ _ (by omega),show(ts.flatMap Cp).length+2-(ts.flatMap Cp).length=2 by omega];simp[Cp]
theorem o9(ts:List ByteArray)(m:Nat)(c:Bool):Value.bool c∉Gr ts m:=by
 intro h;unfold Gr at h;rcases GA.1 h with h|h<;>(obtain⟨t,_,h⟩:=L1.1 h;simp[Cp] at h)
def KA(a:World)(g m:Nat)(ts:List ByteArray):Prop:=Aa a g (Gr ts m) 44
theorem KA.fit{a:World}{g m:Nat}{ts:List ByteArray}(h:KA a g m ts):g<a.heap.size/\¬BP a g/\DT a g:=
 ⟨Aa.lt h,Cw h (by decide),Lg h λ_ _ _ _ c hc=>o9 _ _ c (List.mem_of_getElem? hc.2.2.2)⟩
theorem Yy{ts:List ByteArray}{k:Nat}(hk:k<ts.length)(m:Nat):(Gr ts m)[k*3]?=some (.int .i64 0)/\(Gr ts m)[k*3+1]?=some (.string ts[k]):=by
 induction ts generalizing k with
 |nil=>cases hk
 |cons t ts a=>
  cases k with
  |zero=>exact⟨rfl,rfl⟩
  |succ k=>
   have:=a (k:=k) (by simpa using hk);rw[show(k+1)*3=k*3+3 by omega,show k*3+3+1=k*3+1+3 by omega];exact this
theorem Yz(n:Nat):((List.replicate n (⟨#[]⟩:ByteArray)).flatMap Cp).length=n*3:=by rw[Ph,C6]
theorem pd(n i:Nat)(b:i<n*3):((List.replicate n (⟨#[]⟩:ByteArray)).flatMap Cp)[i]?=(Cp ⟨#[]⟩)[i%3]?:=by
 induction n generalizing i with
 |zero=>omega
 |succ n a=>
  rw[N9,G8];rcases BZ i 3 with h|h
  ·rw[HI (by simpa[Cp] using h),S4 h]
  ·rw[HU (by simpa[Cp] using h)];show _[i-3]?=_;rw[a (i-3) (by omega),<-Nat.mod_eq_sub_mod h]
theorem pf(n:Nat):(Builtin.zeroCells (Value.agg #[.int .i64 0, .string ⟨#[]⟩, .int .i64 0]).cells n).toList=(List.replicate n (⟨#[]⟩:ByteArray)).flatMap Cp:=by
 have hc:(Value.agg #[.int .i64 0, .string ⟨#[]⟩, .int .i64 0]).cells=#[.int .i64 0, .string ⟨#[]⟩, .int .i64 0]:=by kernel_rfl
 rw[hc];refine I2 λi=>?_;rcases BZ i (n*3) with h|h
 ·rw[pd n i h];have h3:i%3<3:=P8 _ (by omega);simp only[Builtin.zeroCells,Array.getElem?_toList];rw[V1 (by simpa using h)];simp only[Array.getElem_map,Array.getElem_range];show some ((#[Value.int .i64 0, .string ⟨#[]⟩, .int .i64 0]:Array Value)[i%3]!)=_;rcases(show i%3=0\/i%3=1\/i%3=2 by omega) with e|e|e<;>rw[e]<;>rfl
 ·rw[E9 (by simpa[Builtin.zeroCells] using h),E9 (by rw[Yz];exact h)]
theorem pg(w:World){ops:Array Oper}{rest:List Oper}{o:Oper}{a:Act}{Q:Exit->Act->World->Prop}
 (p:o.guard=none)(s x:Operand)(r:o.op=Op.call {callee:=Callee.builtin Builtin.append,args:=#[s,x],argTypes:=#[35,35]})
 (g m:Nat)(ts:List ByteArray)(n:Nat)(hn:n=ts.length)(hl:n<=100)(hs:a.eval s= .slice (some ⟨g,0,none⟩) n (n+m))(hA:KA w g m ts)
 (ad:Addr)(T:ByteArray)(hx:a.eval x= .slice (some ad) 1 1)(hc:∀j u,(Cp T)[j]?=some u->w.cell? (ad.add j)=some u)
 (hK:∀w' e m',KA w' e m' (ts++[T])->Ac w w' (λk=>k=g)->(e=g\/e=w.heap.size)->wpList prog ops Q rest (a.put o.dst (.slice (some ⟨e,0,none⟩) (n+1) (n+1+m'))) w'):
 wpList prog ops Q (o::rest) a w:=by
 have D:(prog.info? 44).map (λi=>(i.zero,i.size,i.bytes))=some (some (.agg #[.int .i64 0, .string ⟨#[]⟩, .int .i64 0]),3,32):=by kernel_rfl
 obtain⟨i,q,F,c,B⟩:=BW D;subst hn;have H:=Aa.lt hA;have t:∀d,(∀j u,(Cp T)[j]?=some u->d.cell? (ad.add j)=some u)->Src prog 3 35 (.slice (some ad) 1 1) 1 (Cp T) d:=λd h=>Src.ofSlice d underlying35 ad 1 1 (Cp T) rfl h (by intro u y;simp[Cp] at y;rcases y with rfl|rfl|rfl<;>rfl);cases m with
 |succ m=>
  refine wpList_append_room_src w p s x _ _ r 44 i underlying35 q g 0 ts.length (ts.length+(m+1)) hs _ hx 1 (Cp T) (by rw[c];exact t w hc) (by omega) ?_ ?_ ?_
  ·intro j b;rw[c];have b:j<3:=b;rw[hA.cell (0+ts.length*3+j) (Bl (by unfold Gr;rw[A9,Ph,Yz];omega))];rfl
  ·intro j b;exact hA.free _
  ·rw[c,B2];have h1:=((hA.set (ts.length*3) (.int .i64 0)).set (ts.length*3+1) (.string T)).set (ts.length*3+2) (.int .i64 0);rw[o8] at h1;have:=hK _ g m h1 (((Ad _ _ _ _).trans (Ad _ _ _ _)).trans (Ad _ _ _ _)) (Or.inl rfl);rw[show ts.length+(m+1)=ts.length+1+m by omega];exact this
 |zero=>
  refine wpList_plain p λK z=>?_;have E:a.eval s= .slice (some ⟨g,0,none⟩) ts.length ts.length:=hs;have A:Gr ts 0=ts.flatMap Cp:=E5 _;have f:=run_append_grow_src (P:=prog) w 35 35 o.type 44 i _ underlying35 q F (some ⟨g,0,none⟩) ts.length ts.length (ts.flatMap Cp)
   (by rw[c];exact run_firstCells_some w.drew 3 ts.length ⟨g,0,none⟩ ts.length ts.length (ts.flatMap Cp) (Ph ts) (λj v b=>by
    have h:=Aa.cell hA j (by rw[A];exact b);rw[Bo,B2];exact h))
   _ 1 (Cp T) (by rw[c];exact t w hc) (by omega) (by omega) (by
     rw[B];unfold Builtin.nextslicecap;split
     ·omega
     ·rw[A4 (by omega)];omega)
  have G:=grownCap_ge w (ts.length+1) ts.length 44;generalize grownCap w (ts.length+1) ts.length 44=l at*;obtain⟨m',rfl⟩:∃m',l=ts.length+1+m':=⟨l-(ts.length+1),by omega⟩;rw[VR] at f;have C:((ts.flatMap Cp++Cp T).toArray++Builtin.zeroCells (Value.agg #[.int .i64 0, .string ⟨#[]⟩, .int .i64 0]).cells m')=(Gr (ts++[T]) m').toArray:=Array.ext' (by
   rw[S9,pf];unfold Gr;rw[HB];simp)
  rw[C] at f;unfold Oper.wp;simp only[execOp,r,resolve,invoke,builtin];simp[E,hx,f,Result.andThen];refine z _ _ (hK _ w.heap.size m' (Aa.new w.drew _ _) ((Lx w _).trans (AZ _ _ _)) (Or.inr rfl))
theorem YA{w a:World}{g:Nat}(h:∀B,B<=g->Below B w a)(hk:∀k,k≠g->a.heap[k]?=w.heap[k]?):Ac w a (λk=>k=g):=
 ⟨(h 0 (A7 _)).os,(h 0 (A7 _)).tape,(h 0 (A7 _)).output,(h 0 (A7 _)).size,λk _ e=>hk k e⟩
theorem Sq:(prog.info? 31).map (·.size)=some 10:=by kernel_rfl
def MO(w:World)(b:Nat)(xs:List Rq):Prop:=∀k (hk:k<xs.length),w.cell? ⟨b,k*6,none⟩=some (.int .i64 xs[k].op)/\w.cell? ⟨b,k*6+1,none⟩=some (.int .i64 xs[k].vol)/\w.cell? ⟨b,k*6+2,none⟩=some (.int .i64 xs[k].tv)/\w.cell? ⟨b,k*6+3,none⟩=some (.int .i64 xs[k].blk)/\w.cell? ⟨b,k*6+4,none⟩=some (.int .i64 xs[k].n)/\w.cell? ⟨b,k*6+5,none⟩=some (.string xs[k].text)
theorem ph{w w':World}{b:Nat}{xs:List Rq}(h:MO w b xs)(hb:b<w.heap.size)(a:Below w w w'):MO w' b xs:=λk hk=>by
 obtain⟨h0,h1,h2,h3,h4,h5⟩:=h k hk;exact⟨(a.cell (p:=⟨b,_,none⟩) hb).trans h0,(a.cell (p:=⟨b,_,none⟩) hb).trans h1,(a.cell (p:=⟨b,_,none⟩) hb).trans h2,(a.cell (p:=⟨b,_,none⟩) hb).trans h3,(a.cell (p:=⟨b,_,none⟩) hb).trans h4,(a.cell (p:=⟨b,_,none⟩) hb).trans h5⟩
abbrev Lu(b a c e d:Value)(p:Pl):List Value:=[b,a, p.disk.fuse,c, .bool p.disk.dead, p.mt, p.gen, p.area,e,d]
structure Pi(n0:Nat)(W:World)(p:Pl)(g m:Nat)(ts:List ByteArray):Prop where
 pl:∃vk vc vp vv vt,Aa W n0 (Lu vk vc vp vv vt p) 31∧∀W',Ac W W' (fun k=>k=n0∨k=n0+1∨k=g)→AH W' vk vc vp vv vt p
 res:Aa W (n0+1) Bz 31
 row:KA W g m ts
 new:n0+1<g
theorem Pi.mine{n0:Nat}{a:World}{p:Pl}{g m:Nat}{ts:List ByteArray}(h:Pi n0 a p g m ts):Cx a (λk=>k=n0\/k=n0+1\/k=g):=by
 obtain⟨r,q,s,u,t,h1,h2⟩:=h.pl;obtain⟨v,w,x,y,z,i,j,l,n,o,b,c,d,e,f,rfl,rfl,rfl,rfl,rfl⟩:=(h2 a (AW _ _)).shape;rintro k (rfl|rfl|rfl)
 ·exact⟨h1.lt,Cw h1 (by decide),Fs h1⟩
 ·exact⟨h.res.lt,Cw h.res (by decide),Fs h.res⟩
 ·exact h.row.fit
theorem pn(Y W Z a1 a0:Value)(xs:List Rq)(d:Nat->Pl)(ts:List ByteArray)(b c:Nat)(w:World)(hp:AH w Y W Z a1 a0 (d 0))(aM:MO w b xs)(hb:b<w.heap.size)(da:ts.length=xs.length)(hl:xs.length<=10)
 (a9:∀k (hk:k<xs.length) (ga:k<ts.length) Y W Z a1 a0 b0 R,Cx b0 R->AH b0 Y W Z a1 a0 (d k)->Calls prog 17 #[AO Y W Z a1 a0 (d k),Cy xs[k]] b0 λe w'=>∃aj ai ak an al,e= .returned (.tuple #[AO aj ai ak an al (d (k+1)),De 0 ts[k] 0])/\(∀aq,Ac w' aq R->AH aq aj ai ak an al (d (k+1)))/\Below b0 b0 w'):
 Calls prog 10 #[AO Y W Z a1 a0 (d 0), .slice (some ⟨b,0,none⟩) xs.length c] w λe w'=>∃aj ai ak an al g m,e= .returned (.tuple #[AO aj ai ak an al (d xs.length), .slice (some ⟨g,0,none⟩) xs.length (xs.length+m)])/\AH w' aj ai ak an al (d xs.length)/\KA w' g m ts/\Below w w w':=by
 obtain⟨F,G,H,I,J,z,A,C,D,E,l,o,r,s,t,rfl,rfl,rfl,rfl,rfl⟩:=hp.shape;obtain⟨e8,et,bR,cF⟩:=Hx4 a9 aM da hp;obtain⟨a7,c2⟩:∃a7,xs.length=a7:=⟨_,rfl⟩;rw[c2] at hl⊢;have bM:=A0 c2;clear a9 aM da hp c2;go_enter func10,ntmps10;have c6:=(A2 w.heap.size w).alloc (A1 _) (.cells #[.slice F z l, .slice G A o, .int .i64 (d 0).disk.fuse, .slice H C r, .bool (d 0).disk.dead, .int .i64 (d 0).mt, .int .i64 (d 0).gen, .int .i64 (d 0).area, .slice I D s, .slice J E t] 31);have c7:=c6.alloc c6.size (.cells Bz.toArray 31);have bl:=c7.alloc c7.size (.cells #[] 44);have d1:Pi w.heap.size (((w.alloc (.cells #[.slice F z l, .slice G A o, .int .i64 (d 0).disk.fuse, .slice H C r, .bool (d 0).disk.dead, .int .i64 (d 0).mt, .int .i64 (d 0).gen, .int .i64 (d 0).area, .slice I D s, .slice J E t] 31)).alloc (.cells Bz.toArray 31)).alloc (.cells #[] 44)) (d 0) (w+1+1) 0 []:=by
  have b1:=(Aa.new w (Lu (.slice F z l) (.slice G A o) (.slice H C r) (.slice I D s) (.slice J E t) (d 0)) 31).below (((A2 _ (w.alloc (.cells #[.slice F z l, .slice G A o, .int .i64 (d 0).disk.fuse, .slice H C r, .bool (d 0).disk.dead, .int .i64 (d 0).mt, .int .i64 (d 0).gen, .int .i64 (d 0).area, .slice I D s, .slice J E t] 31))).alloc (A1 _) (.cells Bz.toArray 31)).alloc (by simp) (.cells #[] 44));have b2:=(Aa.new (w.alloc (.cells #[.slice F z l, .slice G A o, .int .i64 (d 0).disk.fuse, .slice H C r, .bool (d 0).disk.dead, .int .i64 (d 0).mt, .int .i64 (d 0).gen, .int .i64 (d 0).area, .slice I D s, .slice J E t] 31)) Bz 31).below ((A2 _ _).alloc (A1 _) (.cells #[] 44));have cK:=Aa.new ((w.alloc (.cells #[.slice F z l, .slice G A o, .int .i64 (d 0).disk.fuse, .slice H C r, .bool (d 0).disk.dead, .int .i64 (d 0).mt, .int .i64 (d 0).gen, .int .i64 (d 0).area, .slice I D s, .slice J E t] 31)).alloc (.cells Bz.toArray 31)) [] 44;simp only[Bx] at b2 cK;refine⟨⟨_,_,_,_,_,b1,λaq bp=>cF.below (bl.trans (bp.below (B:=w.heap.size) bl.size (λk e=>by omega)))⟩,b2,cK,by omega⟩
 obtain⟨bN,bx⟩:=Hx2 d1 bl;clear c6 c7 bl d1;go_wp2_with fail;obtain⟨n0,ca⟩:∃n0,w.heap.size=n0:=⟨_,rfl⟩;have b8:=A0 ca;rw[ca] at bN bx hb⊢;clear ca;go_loopw [6,7] (λfv co wr=>∃(k g m:Nat),co= .int .i64 (k:Int)/\fv= .slice (some ⟨g,0,none⟩) k (k+m)/\k<=a7/\Pi n0 wr (d k) g m (ts.take k)/\Below n0 w wr) (λ_ co _=>a7-(intOf co).toNat)
 case atStart=>exact⟨0,_,0,rfl,rfl,A7 _,bN,bx⟩
 case round=>
  clear bN bx;generalize wr=O at*;obtain⟨k,g,m,rfl,rfl,hk,a3,au⟩:=hrel;obtain⟨bb,cy⟩:=Hx2 a3 au;have bX:n0<=O.heap.size:=by have:=au.size;rw[b8.out] at this;exact this
  obtain⟨Y,W,Z,a1,a0,ad,V⟩:=a3.pl;have c9:=a3.mine;have g3:k<=ts.length:=by have:=bR.out;have:=bM.out;omega
  clear cF;by_cases f7:k<a7
  ·have c8:k<xs.length:=by rw[bM.out];exact f7
   have cX:k<ts.length:=by rw[bR.out];exact c8
   obtain⟨x,aM⟩:∃x,x=xs[k]:=⟨_,rfl⟩;obtain⟨T,c4⟩:∃T,T=ts[k]:=⟨_,rfl⟩;have cc:=ph et (by rw[b8.out];exact hb) (by rw[b8.out];exact au) k c8;have a9:=e8 k c8 cX;rw[<-aM] at cc a9;rw[<-c4] at a9;have em:Hid (ts.take (k+1)=ts.take k++[T]):=by unfold Hid;rw[B1 cX,c4]
   have b6:=A0 a9;obtain⟨q,aa⟩:∃q,q=d (k+1):=⟨_,rfl⟩;rw[<-aa] at b6;have b9:=A0 aa;obtain⟨p,hp⟩:∃p,p=d k:=⟨_,rfl⟩;rw[<-hp] at b6 ad V;have g0:(k:Int)<(a7:Int):=by omega
   have g1:(0:Int)<=(k:Int):=by omega
   have f6:=ad.lt;have a8:b<O.heap.size:=B3 hb bX;obtain⟨cC,a5,ea,a6⟩:=Hx4 ad V c9 cc;clear ad V c9 cc a9 aM c4 aa hp a3 au;go_wp2_with fail;refine BM (S:=λao=>Below O.drew.heap.size O.drew ao) (by kernel_rfl) 13 rfl (A2 _ _) (λM=>?_);have U:=(A2 O.heap.size O).drew;have bL:=A0 (cC.below U);have N:n0<O.drew.heap.size:=f6;have af:b<O.drew.heap.size:=a8;obtain⟨dc,dd,dk,dn,ds,dT⟩:_/\_/\_/\_/\_/\_:=⟨(U.cell (p:=⟨b,k*6,none⟩) a8).trans a6.out.1,(U.cell (p:=⟨b,k*6+1,none⟩) a8).trans a6.out.2.1,(U.cell (p:=⟨b,k*6+2,none⟩) a8).trans a6.out.2.2.1,(U.cell (p:=⟨b,k*6+3,none⟩) a8).trans a6.out.2.2.2.1,(U.cell (p:=⟨b,k*6+4,none⟩) a8).trans a6.out.2.2.2.2.1,(U.cell (p:=⟨b,k*6+5,none⟩) a8).trans a6.out.2.2.2.2.2⟩;have ab:=A0 U;clear U cC a6;generalize O.drew=ap at*;obtain⟨i0,i1,i2,i3,i4,i5,ag,ah,aP,aT⟩:=bL.ten;have j:∀(ao:World) (g i:Nat) (u:Value),Below ap ap ao->g<ap.heap.size->ap.cell? ⟨g,i,none⟩=some u->ao.cell? ⟨g,i,none⟩=some u:=λao g i u f2 bp hc=>(f2.cell (p:=⟨g,i,none⟩) bp).trans hc;refine Ab (v:=AO Y W Z a1 a0 p) 0 M ?_ (hy:=by intro w' f;have fb:=j w' _ _ _ f N i0;have fi:=j w' _ _ _ f N i1;have fj:=j w' _ _ _ f N i2;have fk:=j w' _ _ _ f N i3;have fr:=j w' _ _ _ f N i4;have fu:=j w' _ _ _ f N i5;have gl:=j w' _ _ _ f N ag;have gm:=j w' _ _ _ f N ah;have gs:=j w' _ _ _ f N aP;have gx:=j w' _ _ _ f N aT;go_simp);refine Ab 1 M ?_;refine Ab 2 M ?_;refine Px ?_;refine Ab 3 M ?_;refine Px ?_;refine Ab (v:=Cy x) 4 M ?_ (hy:=by intro w' f;have fb:=j w' _ _ _ f af dc;have fi:=j w' _ _ _ f af dd;have fj:=j w' _ _ _ f af dk;have fk:=j w' _ _ _ f af dn;have fr:=j w' _ _ _ f af ds;have fu:=j w' _ _ _ f af dT;go_simp);refine Px ?_;refine Yt 5 9 10 #[true,true,true,true,true,true,true,true,true,false,false,false,false] #[true,true,true,true,true,false,false,false,false,true,false,false,false] #[true,true,true,true,true,false,false,false,false,false,true,false,false] #[true,true,true,true,true,true,true,true,true,true,false,false,false] #[true,true,true,true,true,true,true,true,true,false,true,false,false] #[true,true,true,true,true,false,false,false,false,true,true,false,false] #[true,true,true,true,true,true,true,true,true,true,true,false,false] (FY (λk=>k=n0\/k=n0+1\/k=g) ap q (De 0 T 0)) (λv a=>(((a.put (some 23) v).put (some 17) v).put (some 24) (IL v 0)).put (some 25) (IL v 1)) u8 u9 ⟨A2 _ _,nofun,nofun,nofun⟩ (λ_ _ _ _ h=>h.low) ?_ ?_ ?_ ?_ ?_;focus
    intro cp cq P y K L;go_simp;have f3:=ab.trans (y.low.mono ab.size);refine(b6 Y W Z a1 a0 P _ (y.mine (Ls ea ab)) (a5 P ((Ai f3).mono λ_ _ e=>e.elim))).mono ?_;rintro e h1 ⟨aj,ai,ak,an,al,rfl,f9,f5⟩;exact L _ _ (y.gave f5 f9)
   focus
    intro eS cp cq P y K L;go_simp;exact L _ _ y.new1
   focus
    intro eS cp cq P y K L;go_simp;exact L _ _ y.new2
   focus
    rintro X fz f4 cp cq v P n y hk;have c3:=y.low;obtain⟨F,G,H,I,J,z,A,C,D,E,l,o,r,s,t,rfl,_⟩:=y.ok _ rfl;rcases f4 with⟨rfl,rfl⟩|⟨rfl,rfl⟩|⟨rfl,rfl⟩|⟨rfl,rfl⟩;all_goals
     refine Ab 6 c3 ?_;refine Px ?_;refine Ab 7 c3 ?_;refine Ab 8 c3 ?_;exact hk
   rintro v gX h0 P y;obtain⟨F,G,H,I,J,z,A,C,D,E,l,o,r,s,t,rfl,V⟩:=y.ok _ rfl;obtain⟨g2,rfl,bp,av⟩:=y.b1 _ rfl;obtain⟨Q,rfl,cU,c0⟩:=y.b2 _ rfl;have ac:=y.low;clear y;have d0:g2≠Q:=Lr av c0 (by decide);clear i0 i1 i2 i3 i4 i5 ag ah aP aT dc dd dk dn ds dT j M b6 a5;have a5:=A0 V;have cT:=bL.below ac;have bu:=ab.trans (ac.mono ab.size);have d2:=bb.res.below bu;have d4:=Aa.below bb.row bu;have g6:=bb.new;have g5:=Aa.lt bb.row;have ey:=A0 (cy.trans (bu.mono bX));have gk:=ab.size;have gg:=ac.size;clear V bu bL;obtain⟨b3,b4,b5,cr,cs,ct,cu,cv,cw,cx⟩:=av.fz10;obtain⟨aU,aV,aX,cg,ch,ci,cj,ck,cl,cm⟩:=av.ten;try simp only[Act.put,OT,HM,G3,IL]
   refine Ao 11 (λK L=>?_);go_simp;obtain⟨cS,bq⟩:=av.put10 (.slice F z l) (.slice G A o) (.int .i64 q.disk.fuse) (.slice H C r) (.bool q.disk.dead) (.int .i64 q.mt) (.int .i64 q.gen) (.int .i64 q.area) (.slice I D s) (.slice J E t);refine L _ _ (ac.trans (bq.below ac.size (λk e=>by omega))) (λM=>?_);clear L K aU aV aX cg ch ci cj ck cl cm b3 b4 b5 cr cs ct cu cv cw cx;have bV:=bq.blk c0 (λe=>d0 e.symm);generalize ((((((((((P.setCell ⟨g2,0,none⟩ (.slice F z l)).setCell ⟨g2,1,none⟩ (.slice G A o)).setCell ⟨g2,2,none⟩ (.int .i64 q.disk.fuse)).setCell ⟨g2,3,none⟩ (.slice H C r)).setCell ⟨g2,4,none⟩ (.bool q.disk.dead)).setCell ⟨g2,5,none⟩ (.int .i64 q.mt)).setCell ⟨g2,6,none⟩ (.int .i64 q.gen)).setCell ⟨g2,7,none⟩ (.int .i64 q.area)).setCell ⟨g2,8,none⟩ (.slice I D s)).setCell ⟨g2,9,none⟩ (.slice J E t))=eA at*;try simp only[OT,HM,G3]
   refine Ao 12 (λK L=>?_);obtain⟨aU,aV,aX,b3,b4,b5⟩:=bV.three;go_simp;obtain⟨bc,bs⟩:=bV.put3 (.int .i64 0) (.string T) (.int .i64 0);refine L _ _ (M.trans (bs.below M.size (λk e=>by omega))) (λf1=>?_);clear L K aU aV aX b3 b4 b5;have c1:=bs.blk cS d0;generalize (((eA.setCell ⟨Q,0,none⟩ (.int .i64 0)).setCell ⟨Q,1,none⟩ (.string T)).setCell ⟨Q,2,none⟩ (.int .i64 0))=ar at*;have aF:Ac P ar (λk=>k=g2\/k=Q):=(bq.mono λ_ _ e=>Or.inl e).trans (bs.mono λ_ _ e=>Or.inr e);have ay:=aF.blk cT (by omega);have d3:=aF.blk d2 (by omega);have d5:=aF.blk d4 (by omega);refine Bc (by kernel_rfl) ?_ _;obtain⟨aU,aV,aX,cg,ch,ci,cj,ck,cl,cm⟩:=c1.ten;obtain⟨e0,e1,e2,_,_,_⟩:=bc.three;obtain⟨b3,b4,b5,cr,cs,ct,cu,cv,cw,cx⟩:=ay.fz10;obtain⟨i0,i1,i2,i3,i4,i5,ag,ah,aP,aT⟩:=ay.ten;obtain⟨e7,cz,bO,bP,e5⟩:=Hx5 ay aF d3 d5 bc;have g4:n0<ar.heap.size:=ay.lt;have g7:g2<ar.heap.size:=c1.lt;have g8:Q<ar.heap.size:=bc.lt;have gb:n0≠g2:=by omega
   have f8:n0≠Q:=by omega
   clear av c0 cS c1 bV bc bq bs cT ay d2 d3 d4 d5 ac M f1 aF;go_wp2_with (first
    |(refine Fe rfl 31 (.tmp 2) (.tmp 26) rfl n0 (Lu (.slice F z l) (.slice G A o) (.slice H C r) (.slice I D s) (.slice J E t) q) (Lu Y W Z a1 a0 p) 10 rfl rfl 31 e7 Sq rfl rfl rfl ?_
      intro a2 ax aK cb aL;clear cb;have aC:=YA aK aL;have cL:=aC.blk e5 (λe=>f8 e.symm);have eg:=A0 (aC.blk bO (by omega));have d6:=aC.blk bP (by omega);obtain⟨bK,a4⟩:=Hx2 (show Aa a2 n0 _ _ from ax) aC;clear aU aV aX cg ch ci cj ck cl cm e0 e1 e2 b3 b4 b5 cr cs ct cu cv cw cx i0 i1 i2 i3 i4 i5 ag ah aP aT ax aC aK aL;obtain⟨e0,e1,e2,_,_,_⟩:=cL.three;have c5:=(A2 a2.heap.size a2).alloc (A1 _) (.cells #[.int .i64 0, .string T, .int .i64 0] 44);obtain⟨bw,ek,eb⟩:=Hx3 c5 (show KA (a2.alloc (.cells #[.int .i64 0, .string T, .int .i64 0] 44)) g m (ts.take k) from d6.below c5) (MS a2 (Cp T) 44);clear cL d6 c5)
    |(at_builtin;refine pg _ rfl (.tmp 27) (.tmp 29) rfl g m (ts.take k) k (by rw[B5];omega) (by omega) rfl ek ⟨a2,0,none⟩ T rfl eb ?_;intro bT f0 m5 cM cV bt;have e6:=A0 cM;have b7:=A0 cV;have e9:=A0 bt;clear cM cV bt))
   have gd:=cz.size;have gf:=a4.size;have fa:=b7.size;rw[Bx] at fa;have bt:=e9.out;rw[Bx] at bt;have e3:Ac P bT (λi=>i=n0\/i=g\/i=g2\/i=Q):=((cz.mono λi _ e=>by omega).trans (a4.mono λi _ e=>Or.inl e)).trans (((Ai bw).mono λ_ _ e=>e.elim).trans (b7.mono λi _ e=>Or.inr (Or.inl e)));have gT:Ac ar bT (λi=>i=n0\/i=g):=(a4.mono λi _ e=>Or.inl e).trans (((Ai bw).mono λ_ _ e=>e.elim).trans (b7.mono λi _ e=>Or.inr e));have e4:Ac a2 bT (λi=>i=g):=((Ai bw).mono λ_ _ e=>e.elim).trans b7;refine⟨⟨k+1,f0,m5,by go_num,rfl,by omega,⟨⟨.slice F z l, .slice G A o, .slice H C r, .slice I D s, .slice J E t,?_,λaq cU=>?_⟩,e4.blk eg (by omega),?_,by omega⟩,ey.trans (e3.below (B:=n0) (by omega) (λi e=>by have e:i=n0\/i=g\/i=g2\/i=Q:=e;omega))⟩,by simp[intOf];omega⟩
   ·rw[<-b9.out];exact e4.blk bK (by omega)
   ·rw[<-b9.out];refine a5 aq (Ac.trans' (e3.mono λi _ e=>?_) cU λi g9 e=>?_)
    ·rcases e with e|e|e|e
     ·exact Or.inl (Or.inl e)
     ·exact Or.inl (Or.inr (Or.inr e))
     ·exact Or.inr (Or.inl (by rw[e]))
     ·exact Or.inr (Or.inr (by rw[e]))
    ·exact Or.inl (by omega)
   ·rw[em.out];exact e6
  ·obtain rfl:k=a7:=by omega
   have hd:decide ((k:Int)<(k:Int))=false:=A6 (by omega);obtain⟨F,G,H,I,J,z,A,C,D,E,l,o,r,s,t,rfl,rfl,rfl,rfl,rfl⟩:=(V O (AW _ _)).shape;obtain⟨i0,i1,i2,i3,i4,i5,ag,ah,aP,aT⟩:=ad.ten;obtain⟨bO,bP,ec,a5⟩:=Hx4 a3.res a3.row a3.new V;have es:Hid (ts.take k=ts):=E2 (by have:=bR.out;have:=bM.out;omega);obtain⟨q,aa⟩:∃q,q=d k:=⟨_,rfl⟩;rw[<-aa] at i2 i4 i5 ag ah a5;have b9:=A0 aa;clear a3 ad V c9 au aa;go_wp2_with (refine Fe rfl 31 (.tmp 4) (.tmp 31) rfl (n0+1) (Lu (.slice F z l) (.slice G A o) (.slice H C r) (.slice I D s) (.slice J E t) q) Bz 10 rfl rfl 31 bO Sq rfl rfl rfl ?_;intro a2 ax aK cb aL;have bK:=A0 ax;have a4:=A0 (YA aK aL);clear cb aK aL ax)
   have cP:=cy.trans (a4.below (B:=n0) bX (λi e=>by have e:i=n0+1:=e;omega));refine A5 (KH rfl _ _ (n0+1) (Lu (.slice F z l) (.slice G A o) (.slice H C r) (.slice I D s) (.slice J E t) q) 10 rfl 31 bK _ underlying31 rfl Sq rfl) rfl ?_;rw[<-b9.out];refine⟨.slice F z l, .slice G A o, .slice H C r, .slice I D s, .slice J E t,g,m,rfl,a5 _ (a4.mono λi _ e=>Or.inr (Or.inl e)),?_,by rw[<-b8.out] at cP;exact cP⟩;have:=a4.blk bP (by have:=ec.out;omega);rw[es.out] at this;exact this
theorem po(s:ByteArray)(w:World)(a:BC w)(h0:s.size≠256):Calls prog 3 #[.string s] w λe w'=>e= .returned (.bool true)/\Below w w w':=by
 have f:=So w a;have k:((s.size:Int)!=256)=true:=by simp;omega
 have i:=A0 a;clear a h0;go_enter func3,ntmps3;go_wp2_with fail;refine f.mono ?_;rintro e j ⟨rfl,b⟩;have g:=So j (Fv i b);have c:=A0 b;clear f b;go_wp2_with fail;refine g.mono ?_;rintro e l ⟨rfl,d⟩;have h:=A0 (c.trans (d.mono c.size));clear g d;go_wp2_with fail;go_ret;exact⟨rfl,h⟩
def MP(s:ByteArray):List Rq:=[⟨0,1,0,0,1,⟨#[]⟩⟩,⟨4,1,0,0,0,s⟩,⟨3,1,0,0,0,⟨#[]⟩⟩]
def YB(q a b:Pl):Nat->Pl
 |0=>q
 |1=>a
 |_=>b
def IP(x:Rq):List Value:=[x.op, x.vol, x.tv, x.blk, x.n, .string x.text]
theorem pq{w:World}{b:Nat}{xs:List Rq}{T:TypeId}(h:Aa w b (xs.flatMap IP) T):MO w b xs:=λk hk=>by
 have key:∀(xs:List Rq) (k:Nat) (hk:k<xs.length) (j:Nat) (_:j<6),(xs.flatMap IP)[k*6+j]?=(IP xs[k])[j]?:=by
  intro xs;induction xs with
  |nil=>intro k hk;cases hk
  |cons x xs c=>
   intro k hk j a;rw[G8];cases k with
   |zero=>rw[HI (by simp[IP];omega)];simp
   |succ k=>
    rw[HU (by simp[IP];omega)];have:=c k (by simpa using hk) j a;rw[show(k+1)*6+j-(IP x).length=k*6+j by simp[IP];omega];simpa using this
 exact⟨h.cell _ (key xs k hk 0 (by omega)),h.cell _ (key xs k hk 1 (by omega)),h.cell _ (key xs k hk 2 (by omega)),h.cell _ (key xs k hk 3 (by omega)),h.cell _ (key xs k hk 4 (by omega)),h.cell _ (key xs k hk 5 (by omega))⟩
theorem pt(s:ByteArray)(w:World)(a9:BC w)(h0:s.size=256):Calls prog 3 #[.string s] w λe w'=>e= .returned (.bool true)/\Below w w w':=by
 obtain⟨ax,f,t,pk,a,b3,o,ad,i0,d1,i1,d2,i2,a3,aj⟩:=mO w s h0;have ai:=So w a9;obtain⟨Q,I⟩:∃Q,Q=BE 1 4:=⟨_,rfl⟩;have ag:∀d,Calls prog 9 #[.int .i64 1, .int .i64 4] d λe w'=>∃l j n r q,e= .returned (.tuple #[AO l j n r q Q, .int .i64 0])/\(∀Y,Ac w' Y (λk=>k<d.heap.size)->AH Y l j n r q Q)/\Below d d w':=λd=>by
  rw[I];exact Yb 1 4 (by omega) (by omega) (by omega) (by omega) (by omega) d
 rw[<-I] at i0 d1;clear I;have W:=A0 (λl j n r q b c d (hp:AH d l j n r q Q) (b9:MO d b (MP s)) (hb:b<d.heap.size)=>pn l j n r q (MP s) (YB Q ax f) [⟨#[]⟩,⟨#[]⟩,s] b c d hp b9 hb rfl (by show(3:Nat)<=10;omega) (λk hk bq l j n r q d R J hp=>by
  have bs:k<3:=hk;rcases(show k=0\/k=1\/k=2 by omega) with rfl|rfl|rfl
  ·exact II l j n r q _ _ _ _ R d J hp i0.ok i0.dead i0.fuse d1
  ·exact II l j n r q _ _ _ _ R d J hp i1.ok i1.dead i1.fuse d2
  ·exact II l j n r q _ _ _ _ R d J hp i2.ok i2.dead i2.fuse a3))
 obtain⟨b2,U,X⟩:=Hx3 (λd=>Rv s d) ad aj;have bt:((s.size:Int)!=256)=false:=by rw[h0];decide
 have b0:=A0 h0;clear a9 ad aj i0 d1 i1 d2 i2 a3 h0;go_enter func3,ntmps3;go_wp2_with fail;refine ai.mono ?_;rintro e bP ⟨rfl,aa⟩;have E:=A0 aa;clear ai aa;go_wp2_with fail;refine(ag _).mono ?_;rintro e x ⟨l,j,n,r,q,rfl,O,ab⟩;obtain⟨aF,aK,aL,aM,aP,ao,ap,aq,ar,au,a4,a5,a6,a7,a8,rfl,rfl,rfl,rfl,rfl⟩:=(O x (AW _ _)).shape;obtain⟨y,V⟩:=Hx2 (E.trans (ab.mono E.size)) (O x (AW _ _));clear ag ab O;go_wp2_with fail;have L:=(A2 x.heap.size x).alloc (A1 _) (.cells #[.slice aF ao a4, .slice aK ap a5, Q.disk.fuse, .slice aL aq a6, .bool Q.disk.dead, Q.mt, Q.gen, Q.area, .slice aM ar a7, .slice aP au a8] 31);have z:=Aa.new (x.alloc (.cells #[.slice aF ao a4, .slice aK ap a5, Q.disk.fuse, .slice aL aq a6, .bool Q.disk.dead, Q.mt, Q.gen, Q.area, .slice aM ar a7, .slice aP au a8] 31)) ((MP s).flatMap IP) 39;have A:=L.alloc L.size (.cells ((MP s).flatMap IP).toArray 39);rw[Bx] at z;refine(W _ _ _ _ _ (x+1) 3 _ (V.below A) (pq z) z.lt).mono ?_;rintro e v ⟨bM,bL,bN,bO,bb,g,m,rfl,C,B,ac⟩;simp only[show(MP s).length=3 from rfl,show YB Q ax f 3=f from rfl] at C⊢;have P:Be v bb [[(a,Aq t.size,b3,o)]]:=by rw[<-X.out];exact C.tabs
 obtain⟨aT,aU,aV,aX,bR,m1,m2,al,an,m5,c1,c2,c3,c4,c5,rfl,rfl,rfl,rfl,rfl⟩:=C.shape;obtain⟨bT,bV,b8,_⟩:=E8 P;injection b8 with ay aC q3;subst ay q3;obtain rfl:m5=1:=aC;obtain⟨F,S,bl,b4,rfl,b5,G,ak⟩:=Gf P (k:=0) (by simp);obtain⟨Z,av,rfl,b6,_,cl,_,_⟩:=E6 ak (k:=0) (by simp);have a1:v.cell? ⟨F,S,none⟩=some (.slice (some ⟨Z,av,none⟩) 1 b4):=G;have a0:v.cell? ⟨Z,av+1,none⟩=some (.int .i64 (Aq t.size)):=by simpa using cl
 have ah:=Aa.lt B;have cs:v.cell? ⟨g,7,none⟩=some (.string s):=Aa.cell B 7 (Yy (ts:=[⟨#[]⟩,⟨#[]⟩,s]) (k:=2) (by simp) m).2;have a2:v.cell? ⟨g,3,none⟩=some (.int .i64 0):=Aa.cell B 3 (Yy (ts:=[⟨#[]⟩,⟨#[]⟩,s]) (k:=1) (by simp) m).1;have T:=A0 ((y.trans (A.mono y.size)).trans (ac.mono (A8 y.size A.size)));clear C P ak G cl B ac L A z V E y W X;go_wp2_with fail;refine(b2 _).mono ?_;rintro e bc ⟨D,bx,bw,rfl,af,N⟩;obtain⟨rfl,_,_⟩:=UN af U;have b7:∀d,Calls prog 12 #[D.size] d λe w'=>e= .returned (.int .i64 (Aq D.size))/\w'=d:=λd=>(WQ D.size d (by obtain⟨_,_,ay,aC,_⟩:=NX U b0;omega)).mono λ_ _ h=>⟨h.1,h.2.symm⟩;have M:=(A2 v.heap.size v).alloc (A1 _) (.cells #[.slice aT m1 c1, .slice aU m2 c2, f.disk.fuse, .slice aV al c3, .bool f.disk.dead, f.mt, f.gen, f.area, .slice aX an c4, .slice (some ⟨F,S,none⟩) 1 c5] 31);have H:=M.trans (N.mono M.size);have K:∀(b i:Nat) (u:Value),b<v.heap.size->v.cell? ⟨b,i,none⟩=some u->bc.cell? ⟨b,i,none⟩=some u:=λb i u hb hc=>(H.cell (p:=⟨b,i,none⟩) hb).trans hc;have G:=K _ _ _ b5 a1;have cl:=K _ _ _ b6 a0;have cs:=K _ _ _ ah cs;have a2:=K _ _ _ ah a2;have bp:=((Aa.new v [.slice aT m1 c1, .slice aU m2 c2, f.disk.fuse, .slice aV al c3, .bool f.disk.dead, f.mt, f.gen, f.area, .slice aX an c4, .slice (some ⟨F,S,none⟩) 1 c5] 31).below N).cell 9 rfl;have b1:=A0 (T.trans (H.mono T.size));have bu:(s.toList==s.toList)=true:=by simp
 clear K a1 a0 M H N af;generalize Aq D.size=bK at*;go_wp2_with fail;go_quiet ((go_at_call 12;exact Calls.quiet_of_same (b7 _)))
 go_wp2_with fail;go_ret;exact⟨rfl,b1.trans ⟨rfl,rfl,rfl,A1 _,λ_ _=>rfl⟩⟩
theorem pu(s:ByteArray)(w:World)(a:BC w):Calls prog 3 #[.string s] w λe w'=>e= .returned (.bool true)/\Below w w w':=by
 by_cases h0:s.size=256
 ·exact pt s w a h0
 ·exact po s w a h0
end Go.Proofs.YtmajkjjjfodhlaaGreatDoor
