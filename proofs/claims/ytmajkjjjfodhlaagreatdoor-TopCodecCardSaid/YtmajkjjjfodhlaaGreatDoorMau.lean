/- Part Mau. No condition of its own. -/
import Derived.Test.YtmajkjjjfodhlaaGreatDoorSort
import Derived.Maps.OwnIn
import Derived.Maps.Ext
import Derived.Sort.LoopGhostIn
import Derived.Test.YtmajkjjjfodhlaaGreatDoorMat
import Derived.Test.YtmajkjjjfodhlaaGreatDoorMas
namespace Go.Proofs.YtmajkjjjfodhlaaGreatDoor
open Go.RowKit Tryz
set_option linter.all false
set_option maxRecDepth 100000
set_option maxHeartbeats 8000000
theorem VB:type_of%@List.getElem_set_self:=@List.getElem_set_self
theorem VX:type_of%@World.putObj_heap_other:=@World.putObj_heap_other
theorem kq:(prog.info? 78).map (λi=>(i.zero,i.size,i.bytes))=some (some (.agg #[.int .i64 0, .int .i64 0, .slice none 0 0, .slice none 0 0, .slice none 0 0]),5,88):=by kernel_rfl
theorem RF(w:World)(a b c d e:Value)(T:TypeId):∀j y,([a,b,c,d,e]:List Value)[j]?=some y->(w.alloc (.cells #[a,b,c,d,e] T)).cell? ((⟨w,0,none⟩:Addr).add j)=some y:=by
 intro j y f;rw[Bo,B2,G7];simpa using f
def ks(w:World)(vs:List Vl)(v:Vl)(s:NS)(b a:Value)(wr:World):Prop:=
 ∃k:Nat,a= .int .i64 (k:Int)/\k<=vs.length/\Hid (Fr (w+1) wr b (vs.take k))/\Hid (Aa wr w.heap.size (DZ (v.1,v.2.1,s)) 78)/\Hid (Below w w wr)/\Hid (∀j (c:j<vs.length),j<k->vs[j].1<v.1)
theorem RG(v:Value)(vs:List Vl)(x:Vl)(s:NS)(w:World)(aj:CU w v vs)(a6:D5 vs)(hs:Bp w (s) x.2.2)(t:Gv x.1 x.2.1 x.2.2)(b4:∀y∈vs,y.1<=x.1)(bc:(Gg vs x).length<=64):
 Calls prog 96 #[v,FU x.1 x.2.1 s] w λe w'=>∃bL,e= .returned bL/\Fr (w+1) w' bL (Gg vs x)/\Below w w w':=by
 obtain⟨a9,aT,aM,bP,HRoom⟩:=Hx5 aj a6 b4 hs bc;have hl:=a6.len;obtain⟨a0,c0,rfl⟩:=Fy aj;obtain⟨a,xs,av⟩:=x;obtain⟨⟨T,Q,N⟩,⟨U,R,O⟩,⟨V,S,P⟩⟩:=s;dsimp only at hs t;have af:Below w w (w.alloc (.cells #[a, xs, .slice T Q N, .slice U R O, .slice V S P] 78)):=(A2 _ _).alloc (A1 _) _;have ad:Aa (w.alloc (.cells #[a, xs, .slice T Q N, .slice U R O, .slice V S P] 78)) w.heap.size (DZ (a,xs,((T,Q,N),(U,R,O),(V,S,P)))) 78:=Aa.new w (DZ (a,xs,((T,Q,N),(U,R,O),(V,S,P)))) 78;have b6:=SD hs a xs t _ af;have b7:=λE (hb:Below w w E)=>LF (.slice a0 vs.length c0) vs E (EJ a9 hb) a6;obtain⟨Hmays,aK,aa⟩:=Hx3 b7 ad af;obtain⟨i0,b3,bp,bq,bs⟩:=BW kq;clear aj a6 hs t bc b7 af b4;obtain⟨bV,d1,d2,bX,d4⟩:=ad.five;clear ad;dsimp only[FU,sv];go_enter func96,ntmps96;go_wp2_with fail;refine b6.mono ?_;rintro e cj ⟨rfl,ag⟩;obtain⟨aL,a1⟩:=Hx2 (aK.below ag) (aa.trans (ag.mono aa.size));have b5:=Hmays cj a1;clear b6 ag aK aa bV d1 d2 bX d4;go_wp2_with fail;refine b5.mono ?_;rintro e cx ⟨rfl,ah⟩;obtain⟨X,aV⟩:=Hx2 (aL.below ah) (a1.trans (ah.mono a1.size));clear b5 ah aL a1;go_wp2_with fail;go_loopw [5,6] (λch ap wr=>ks w vs (a,xs,av) ((T,Q,N),(U,R,O),(V,S,P)) ch ap wr) (λ_ ap _=>vs.length-(intOf ap).toNat)
 case atStart=>exact⟨0,rfl,A7 _,WY _ _,X,aV,λj _ h=>by omega⟩
 case round=>
  obtain⟨k,rfl,hk,Z,o,l,aP⟩:=hrel;clear X aV;obtain⟨bt,bu,bw,bx,bK⟩:=o.five;obtain⟨A,B,rfl⟩:=Mw Z;dsimp only[sv] at bt bu bw bx bK;by_cases f:∃c:k<vs.length,vs[k].1<a
  ·obtain⟨c,f⟩:=f;obtain⟨b,off,⟨⟨cy,ct,cu⟩,⟨cz,m1,cv⟩,⟨cC,m2,cw⟩⟩,rfl,hb,m,aX,c1,c2,c3,b9⟩:=GX (EJ a9 l) c;dsimp only[sv] at m aX c1 c2 c3;have M:=λE t=>RD b9 vs[k].1 vs[k].2.1 E t;have ab:=A0 M;have bR:Hid (vs.take (k+1)=vs.take k++[vs[k]]):=B1 c;have bN:Hid (∀j (C:j<vs.length),j<k+1->vs[j].1<a):=λj C cr=>by
    rcases BZ j k with h|h
    ·exact aP j C h
    ·obtain rfl:j=k:=by omega
     exact f
   generalize vs[k]=y at*;obtain⟨ax,ys,cF⟩:=y;dsimp only at m aX f;have c4:(k:Int)<(vs.length:Int):=by omega
   have g1:(0:Int)<=(k:Int):=by omega
   have ca:=o.lt;have b1:decide (ax<a)=true:=Hc f;have d:(vs.take k).length=k:=by rw[B5];omega
   clear M b9;go_wp2_with fail
   go_region
   have X:=A0 o.drew;have q:=ab wr.drew ((A2 _ _).drew);dsimp only[FU,sv] at q;go_wp2_with fail;refine q.mono ?_;rintro e u ⟨⟨⟨aq,ay,al⟩,⟨ar,aC,an⟩,⟨au,aF,ao⟩⟩,rfl,I,H⟩;have g:Below wr wr u:=((A2 _ _).drew).trans (H.mono (by simp));obtain⟨z,i,F,Y⟩:=Hx4 (o.below g) (Jn Z g) (l.trans (g.mono l.size)) I;obtain⟨cg,J,r,L⟩:=i.out;rw[d] at r;obtain⟨a3,a4,a2⟩:=Hx3 r L J;have a8:=F.size;have b0:=z.lt;clear q I H g J r L X;go_wp2_with (at_builtin;refine F0 _ rfl _ _ 28 rfl (w+1) 78 i0 _ 5 88 underlying28 b3 bp bq bs rfl (by decide) (.slice A k B) k _ rfl (a3.alloc _) ⟨u,0,none⟩ 1 1 (DZ (ax,ys,((aq,ay,al),(ar,aC,an),(au,aF,ao)))) rfl rfl (RF _ _ _ _ _ _ _) (Gw.one _) (by simp[maxLen];omega) (by omega) (by simp;omega) ?_;intro ci W a7 a5 _ _)
   have n:Ac u W (λb=>some b=(Value.slice A k B).ownBlock):=(AZ _ _ _).trans (Gs a5);have G:=RE i a2 a4 Y (by rw[d];exact n) (by rw[d];exact a7);have D:∀b,some b=(Value.slice A k B).ownBlock->w.heap.size+1<=b:=λb hb=>(OV i (by rw[d];exact hb.symm)).1;refine⟨⟨k+1,by go_num,by omega,?_,?_,F.trans (n.below a8 (λb hb=>by have:=D b hb;omega)),bN⟩,by simp[intOf];omega⟩
   ·unfold Hid;rw[bR.out];exact G
   ·exact Gt z n λhb=>by have:=D _ hb;omega
  ·have c8:(∃(c:k<vs.length) (b off:Nat),a0=some ⟨b,off,none⟩/\b<w.heap.size/\w.cell? ⟨b,off+k*5,none⟩=some (.int .i64 vs[k].1)/\a=vs[k].1/\(k:Int)+1=vs.length)\/k=vs.length:=by
    rcases BZ k vs.length with c|cq
    ·obtain⟨b,off,_,c7,hb,m,_⟩:=GX a9 c;have h1:=aM vs[k] (BA c);refine .inl ⟨c,b,off,c7,hb,m,?_,?_⟩
     ·rcases Int.lt_or_le vs[k].1 a with h|h
      ·exact absurd ⟨c,h⟩ f
      ·exact Int.le_antisymm h h1
     ·rcases BZ (k+1) vs.length with h|h
      ·have h2:=Jx.1 aT.rise k (k+1) c h (Nat.lt_succ_self k);have h3:=aM vs[k+1] (BA h);exact absurd ⟨c,Int.lt_of_lt_of_le h2 h3⟩ f
      ·omega
    ·exact .inr (by omega)
   have b2:∀j (C:j<vs.length),k<=j->¬vs[j].1<a:=λj C cs h=>by
    rcases BZ k j with h1|h1
    ·have:=Jx.1 aT.rise k j (by omega) C h1;exact f ⟨by omega,by omega⟩
    ·obtain rfl:j=k:=by omega
     exact f ⟨C,h⟩
   have HWith:=A0 (ko (v:=(a,xs,av)) aP b2);have d:(vs.take k).length=k:=by rw[B5];omega
   have M:=λE t=>RD bP a xs E t;have ab:=A0 M;have q:=ab wr.drew (l.drew);dsimp only[FU,sv] at q;have ca:=o.lt;clear f b2 M;rcases c8 with⟨c,b,off,rfl,hb,m,cc,bb⟩|c9;focus
    generalize vs[k].1=ax at*;subst cc;have bM:=A0 m;have ac:=(l.cell (p:=⟨b,off+k*5,none⟩) hb).trans m;have c4:(k:Int)<(vs.length:Int):=by omega
    have g1:(0:Int)<=(k:Int):=by omega
    have b1:decide (a<a)=false:=A6 (by omega);have co:(a==a)=true:=by simp
    clear c m;go_wp2_with fail
    go_region
    clear ac;go_wp2_with fail
   rotate_left;focus
    have b1:decide ((k:Int)<(vs.length:Int))=false:=A6 (by omega);have cp:decide (k<vs.length)=false:=A6 (by omega);have bb:(k:Int)=vs.length:=by omega
    clear c9;go_wp2_with fail
    go_region
    go_wp2_with fail
   rotate_left;all_goals
    refine q.mono ?_;rintro e u ⟨⟨⟨aq,ay,al⟩,⟨ar,aC,an⟩,⟨au,aF,ao⟩⟩,rfl,I,H⟩;have g:Below wr wr u:=((A2 _ _).drew).trans (H.mono (by simp));obtain⟨z,i,F,Y⟩:=Hx4 (o.below g) (Jn Z g) (l.trans (g.mono l.size)) I;obtain⟨cg,J,r,L⟩:=i.out;rw[d] at r;obtain⟨a3,a4,a2⟩:=Hx3 r L J;have a8:=F.size;have b0:=z.lt;clear q I H g J r L;go_wp2_with (at_builtin;refine F0 _ rfl _ _ 28 rfl (w+1) 78 i0 _ 5 88 underlying28 b3 bp bq bs rfl (by decide) (.slice A k B) k _ rfl (a3.alloc _) ⟨u,0,none⟩ 1 1 (DZ (a,xs,((aq,ay,al),(ar,aC,an),(au,aF,ao)))) rfl rfl (RF _ _ _ _ _ _ _) (Gw.one _) (by simp[maxLen];omega) (by omega) (by simp;omega) ?_;intro ci W a7 a5 _ _)
    have n:Ac u W (λb=>some b=(Value.slice A k B).ownBlock):=(AZ _ _ _).trans (Gs a5);have D:∀b,some b=(Value.slice A k B).ownBlock->w.heap.size+1<=b:=λb hb=>(OV i (by rw[d];exact hb.symm)).1;have G:=RE i a2 a4 Y (by rw[d];exact n) (by rw[d];exact a7);have ak:=F.trans (n.below a8 (λb hb=>by have:=D b hb;omega));have c5:=(Gt z n (λhb=>by have:=D _ hb;omega)).cell 0 rfl;have bl:=ak.drew;obtain⟨aU,bT⟩:=Hx2 (Jn G ((A2 W.heap.size W).drew)) bl;obtain⟨ck,cl,rfl⟩:=Mw G;have b8:((vs.take k)++[(a,xs,av)]).length=k+1:=by rw[A9,d];rfl
    have ai:=aU.out;rw[b8] at ai⊢;have bO:=A0 ai;try have ac:=(ak.cell (p:=⟨b,off+k*5,none⟩) hb).trans bM
    clear ai aU b8 n D G a5 a7 z i Y a2 a3 a4 bl ak o Z l bt bu bw bx bK b0 a8;try dsimp only at c5
    go_region
    try clear ac
    go_wp2_with fail;refine En λK c6=>?_;clear c6;try rw[bb]
    have hd:decide ((vs.length:Int)<(vs.length:Int))=false:=A6 (by omega);have cb:=HRoom.out;rw[HWith.out,A9,d,N8] at cb;have cm:decide ((64:Int)<((k+1:Nat):Int))=false:=A6 (by omega);go_wp2_with fail;go_ret;exact⟨_,rfl,by rw[HWith.out];exact bO,bT⟩
section
open Go.RowKit Go.Shelf Go.Sort
abbrev Pn:={p:Int×Int//0<=p.1/\p.1<=1099511627776}
instance:Inhabited Pn:=⟨⟨(0,0),by decide,by decide⟩⟩
def Ko(x:Pn):List Value:=Cz x.1
theorem Xa(d:Array Pn):flatK Ko 2 d=(Af Cz (d.toList.map (·.1))).toArray:=by
 have hl:(Af Cz (d.toList.map (·.1))).length=d.size*2:=by rw[Lw DL];simp
 refine ext_get! (by rw[size_flatK];simpa using hl.symm) λt a=>?_;rw[size_flatK] at a;rw[get_flatK _ _ _ t a];have h1:t/2<d.size:=by omega
 have h:=DB DL (d.toList.map (·.1)) (t/2) (by simpa using h1) (t%2) (by omega);rw[show t/2*2+t%2=t by omega] at h;have e:(d.toList.map (·.1))[t/2]'(by simpa using h1)=(d[t/2]).1:=by simp
 rw[e] at h;rw[getElem!_pos d (t/2) h1,getElem!_pos _ t (by simpa using(show t<(Af Cz (d.toList.map (·.1))).length by omega))];have hm:t%2=0\/t%2=1:=by omega
 rw[Bl (by omega)] at h;unfold Ko;rcases hm with h0|h0
 ·rw[h0] at h⊢;simp at h;simp[h]
 ·rw[h0] at h⊢;simp at h;simp[h]
theorem kt{w:World}{g n:Nat}{os:Array Obj}{cur:Array Value}{e:TypeId}{a:Nat×Nat}(d:Array Value)(hb:w.heap[g]?=some (.cells cur e a)):
 (grow (putRow id (Sort.ahead w n) g 0 d) os).heap[g]?=some (.cells (putCells id 0 d cur) e a):=by
 have b:g<w.heap.size:=(HO.1 hb).1;rw[heap_grow_old _ _ (by simpa using b)];simp[putRow,mapBlock,Sort.ahead,V2,hb,onCells]
theorem ku{w:World}{g n:Nat}{os:Array Obj}(d:Array Value):w.grownBy (grow (putRow id (Sort.ahead w n) g 0 d) os) (some g):=by
 refine⟨rfl,rfl,rfl,by simp,λk hk a=>?_⟩;rw[heap_grow_old _ _ (by simpa using hk)];have:g≠k:=λe=>a (by rw[e]);simp[putRow,mapBlock,Sort.ahead,V2,this]
theorem kv(cur:Array Value)(ts:List Value)(h:ts.length<=cur.size):(putCells id 0 ts.toArray cur).toList.take ts.length=ts:=by
 apply I2;intro j;by_cases a:j<ts.length
 ·rw[HP a,Array.getElem?_toList];simp[putCells,a,show j<cur.size by omega]
 ·rw[List.getElem?_take_eq_none (by omega),E9 (by omega)]
theorem kw(x y:Pn)(a:World):Calls prog 217 #[.agg #[x.1.1, x.1.2], .agg #[y.1.1, y.1.2]] a λe w'=>e= .returned (.int .i64 (x.1.1-y.1.1))/\∃q f,w'=grow (a.drewN q) f:=by
 obtain⟨⟨b,k⟩,g,h⟩:=x;obtain⟨⟨c,l⟩,i,j⟩:=y;dsimp only at*;have d:IntKind.i64.wrap (b-c)=b-c:=C0 _ (by omega);go_enter func217,ntmps217;go_wp2_with fail;go_ret;exact⟨by first|rfl|rw[d],0,_,by rw[alloc_eq_grow,alloc_eq_grow,grow_grow];rfl⟩
theorem kx:SWO (ltOf λx y:Pn=>x.1.1-y.1.1) where
 irrefl x:=by unfold ltOf;simp
 trans x y z h1 h2:=by unfold ltOf at*;simp at*;omega
 ntrans x y z h1 h2:=by unfold ltOf at*;simp at*;omega
theorem ky{w:World}{n₀ cap g:Nat}(l:List (Int×Int))(A:∀p∈l,0<=p.1/\p.1<=1099511627776)(F:l.length<=1)(h:w.ownsRow n₀ 113 2 (.slice (some ⟨g,0,none⟩) l.length cap) l.length (Af Cz l)):
 Calls prog 216 #[.slice (some ⟨g,0,none⟩) l.length cap, .func (.func 217) #[] #[]] w λe w'=>e= .returned (.tuple #[])/\
  w'.ownsRow n₀ 113 2 (.slice (some ⟨g,0,none⟩) l.length cap) l.length (Af Cz l)/\w.grownBy w' (some g):=by
 obtain⟨cur,s,b,t,u,I,z⟩:=Ot h;obtain⟨d,hd⟩:∃d:Array Pn,d.toList.map (·.1)=l:=⟨(l.attach.map λx=>(⟨x.1,A x.1 x.2⟩:Pn)).toArray,by
  simp only[R0];exact List.attach_map_subtype_val l⟩
 have C:d.size=l.length:=by rw[<-hd];simp
 have k:=Xa d;rw[hd] at k;have f:=Lw DL l;have r:HoldsK Ko 2 w g 0 d:=by
  unfold HoldsK;rw[k];intro j o;have E:j<l.length*2:=by simpa[f] using o
  refine⟨?_,by simp[World.frozen?,b]⟩;have q:(cur.take (l.length*2))[j]?=(Af Cz l)[j]?:=by rw[z]
  rw[HP E] at q;rw[H6 b,B2,q,getElem!_pos _ j o];simp
 have B:CmpLays prog 217 #[] Ko 2 (λx y=>x.1.1-y.1.1) g 0 d.size w:=λ_ _ _ _ x y=>kw x y _;have D:g<w.heap.size:=by
  rcases BZ g w.heap.size with c|c
  ·exact c
  ·rw[B8 c] at b;cases b
 have i:=AnyQ.slices_SortFunc Tryz.sortP 2 Tryz.isAgg113 Tryz.sizeOf113 Ko (λ_=>rfl) (λx v H=>DL.one x.1 v H) (λx y=>x.1.1-y.1.1) kx 217 #[] g 0 cap d w (enters_of func217 (by kernel_rfl) rfl) B r D (by omega);change Calls prog 216 _ _ _ at i;rw[C] at i;refine i.mono ?_;rintro e w' ⟨rfl,a,n,os,hp,hs,rfl⟩;have J:a.size=d.size:=hp.1;have G:(a.toList.map (·.1))=l:=by
  have h:(a.toList.map (·.1)).Perm l:=by
   rw[<-hd];refine List.Perm.map _ ?_;have:=hp.2.2;rw[Array.extract_eq_self_of_le (by omega),Array.extract_eq_self_of_le (by omega)] at this;exact this
  match l,F,h with
  |[],_,h=>exact List.perm_nil.1 h
  |[x],_,h=>exact W4.1 h
 have m:=Xa a;rw[G] at m;refine⟨rfl,Ou (cur:=(putCells id 0 (flatK Ko 2 a) cur.toArray).toList) s ?_ t u ?_ ?_,ku _⟩
 ·show(grow (putRow id (Sort.ahead w n) g 0 (flatK Ko 2 a)) os).heap[g]?=_;rw[kt _ b]
 ·simp[putCells];omega
 ·rw[m];have:=kv cur.toArray (Af Cz l) (by rw[f];simp;omega);rw[f] at this;exact this
end
section
open Go.RowKit Go.Maps
abbrev DU:=DataW Unit
abbrev Kq(n:Int):DU:= .lit (.int .i64 n)
structure Lb(D:DU)(xs:List Int):Prop where
 im:IsMap D
 at0:∀x:Int,D.atKey (.int .i64 x) (Kq 0)=Kq (xs.count x:Nat)
 hs:∀x:Int,has D (.int .i64 x)=decide (x∈xs)
theorem kz:Lb (.map []) []:=⟨⟨[],rfl⟩,λ_=>rfl,λx=>by simp[has]⟩
theorem Xb(x:Int):WideAt.IsKeyLit (.int .i64 x):=by first|trivial|exact trivial|simp[WideAt.IsKeyLit]
theorem kA{D:DU}{xs:List Int}(h:Lb D xs)(x:Int):Lb (D.put (.int .i64 x) (Kq ((xs.count x:Nat)+1))) (xs++[x]):=by
 have hc:=λy=>QZ xs x y;refine⟨h.im.put _ _,λy=>?_,λy=>?_⟩
 ·by_cases e:y=x
  ·subst e;rw[atKey_put_same h.im (Xb y),hc y,A4 rfl];rfl
  ·rw[atKey_put_other (by intro a;injection a with _ a;exact e a),h.at0 y,hc y,A3 e];rfl
 ·by_cases e:y=x
  ·subst e;rw[has_put_same h.im (Xb y)];simp
  ·rw[has_put_other (by intro a;injection a with _ a;exact e a),h.hs y];simp[e]
structure My(D:DU)(left:Lit→Bool)(L:List (Int×Int)):Prop where
 at0:∀p∈L,D.atKey (.int .i64 p.1) (Kq 0)=Kq p.2
 mem:∀x:Int,(∃p∈L,p.1=x)↔has D (.int .i64 x)=true∧left (.int .i64 x)=false
 nd:(L.map Prod.fst).Nodup
theorem kB(D:DU):My D (has D) []:=⟨λp hp=>by simp at hp,λx=>⟨λ⟨p,hp,_⟩=>by simp at hp,λ⟨h1,h2⟩=>by rw[h1] at h2;cases h2⟩,by simp⟩
theorem kC{D:DU}{left:Lit->Bool}{L:List (Int×Int)}(h:My D left L){x c:Int}(hl:left (.int .i64 x)=true)(g:∀l,D.atKey (.int .i64 x) l=Kq c):My D (λi=>left i&& !i.sameKey (.int .i64 x)) (L++[(x,c)]):=by
 have j:∀p∈L,p.1≠x:=λp hp e=>by
  have:=((h.mem x).1 ⟨p,hp,e⟩).2;rw[hl] at this;cases this
 refine⟨λp hp=>?_,λy=>?_,?_⟩
 ·rcases GA.1 hp with hp|hp
  ·exact h.at0 p hp
  ·rw[B6.1 hp];exact g _
 ·have k:=has_true_of_atKey g;by_cases e:y=x
  ·subst e;refine⟨λ_=>⟨k,by simp[Lit.sameKey]⟩,λ_=>⟨(y,c),by simp,rfl⟩⟩
  ·have hs:(Lit.int .i64 y).sameKey (.int .i64 x)=false:=sameKey_ne (by intro f;injection f with _ f;exact e f);rw[show((∃p∈L++[(x,c)],p.1=y)↔∃p∈L,p.1=y) from⟨λ⟨p,hp,d⟩=>by
    rcases GA.1 hp with hp|hp
    ·exact⟨p,hp,d⟩
    ·rw[B6.1 hp] at d;exact absurd d.symm e,λ⟨p,hp,d⟩=>⟨p,by simp[hp],d⟩⟩]
   rw[h.mem y];simp[hs]
 ·rw[D1,List.nodup_append];refine⟨h.nd,by simp,λa ha b hb=>?_⟩;obtain⟨p,hp,rfl⟩:=E1.1 ha;simp at hb;subst hb;exact j p hp
theorem kD{D:DU}{vs:List Vl}(h1:LE (As vs))(c:Lb D (As vs)){left:Lit->Bool}(hl:∀d,left d=false){L:List (Int×Int)}(h:My D left L):L=CR vs:=by
 have b:∀p∈L,p.1∈As vs:=λp hp=>by
  have:=((h.mem p.1).1 ⟨p,hp,rfl⟩).1;rw[c.hs] at this;simpa using this
 have hc:∀p∈L,p∈CR vs:=λp hp=>(Ji h1 p).2 ⟨by
  have h2:=h.at0 p hp;rw[c.at0] at h2;injection h2 with h2;injection h2 with _ h2;exact h2.symm,H3.2 (b p hp)⟩
 have hm:=λx b=>(h.mem x).2 ⟨by rw[c.hs];simpa using b,hl _⟩;have a:=h.nd;unfold CR at hc⊢;cases e:As vs with
 |nil=>cases L with
  |nil=>rfl
  |cons p L=>have:=b p (by simp);rw[e] at this;cases this
 |cons x l=>
  rw[e,Om] at hc
  match L,hm x (by rw[e];simp),hc,a with
  |[q],_,hc,_=>rw[B6.1 (hc q (by simp))];rfl
  |q::f::_,_,hc,a=>
   rw[B6.1 (hc q (by simp)),B6.1 (hc f (by simp))] at a;simp at a
theorem Xc(vs:List Vl):(CR vs).length<=1:=by
 unfold CR;cases As vs with
 |nil=>exact A7 _
 |cons x l=>exact A1 _
theorem OX:Keyed prog 3:=int_keyed underlying3
theorem kE(w:World):(zeroValue 3).run prog w= .ok (.int .i64 0) w:=by kernel_rfl
theorem kF{w:World}{b n:Nat}{D:DU}{R:Value->Option (DU×List MemPlace)}(h:w.ownsMap prog 3 R b n D):Maps.size D<=n:=by
 obtain⟨c,a,hb,F,hs,rfl⟩:=h;rw[size_eq,length_sorted];simpa using hs
end
section
open Go.RowKit Go.Shelf Go.Maps
attribute [local go_sem] Oper.semAt_some
def Xd(a:List Nat):List Deferred:=a.map λD=>{target:= .collected D,args:=#[]}
theorem Xe{F:Fence}{n:Nat}{P:Program}{f:Func}{tmps:Array Value}{R:Ending->World->Prop}:∀(c:List Nat) (a:World),(∀D∈c,a.heap[D]?=some (.deferred (some [])))->c.Nodup->
 (∀d,Ac a d (λb=>b∈c)->∃v,(results f tmps).run P d= .ok v d/\R (.returned v) d)->LeavesInM F n P f tmps R (Xd c) .returning a
 |[],a,_,_,h=>h a (AW _ _)
 |D::c,a,hm,m,h=>by
  have i:=hm D (by simp);obtain⟨o,p⟩:=VC.1 m;refine⟨by simp, .inl ⟨D,_,rfl,I0 i,?_⟩⟩;have l:Ac a (a.putObj D (.deferred none)) (λb=>b∈D::c):=(Gs (Hv a D (.deferred none))).mono (λk _ e=>by cases e;simp);refine Xe c _ (λE g=>?_) p (λd j=>h d (l.trans (j.mono (λk _ hk=>G2 _ hk))));exact(VX (by rintro rfl;exact o g)).trans (hm E (G2 _ g))
structure Xf(w:World)(vs:List Vl)(k:Nat)(Ds:List Nat)(M B:Nat)(W:World):Prop where
 map:∃D:DU,Lb D (As (vs.take k))∧W.ownsMap Tryz.prog 3 (plainElem Tryz.prog 3) M (As (vs.take k)).length D
 box:Aa W B [.map (some M)] 290
 bl:Below w.heap.size w W
 mks:∀D∈Ds,w.heap.size≤D∧W.heap[D]?=some (.deferred (some []))
 nodup:Ds.Nodup
theorem kG{B d:Nat}{a f:World}(h:d<B)(g:a.grownBy f (some d)):KeepsFrom B a f:=
 ⟨g.size,λk o hk c _=>(g.block k (by
   rcases BZ k a.heap.size with b|b
   ·exact b
   ·rw[B8 b] at c;cases c) (λe=>by injection e with e;omega)).trans c⟩
theorem kH{w:World}{b n:Nat}{D:DU}{R:Value->Option (DU×List MemPlace)}(h:w.ownsMap prog 3 R b n D):∃a c,w.heap[b]?=some (.map a c):=by
 obtain⟨a,d,hb,_⟩:=h;exact⟨a,d,hb⟩
theorem kI{vs:List Vl}(h:∀v∈vs,Gv v.1 v.2.1 v.2.2):∀x∈As vs,0<=x/\x<9000000:=λx a=>by
 obtain⟨v,b,a⟩:=L1.1 a;obtain⟨p,hp,rfl⟩:=E1.1 a;exact OE ((h v b).ok p hp).2.2
theorem kJ(w:World)(x y:Int)(T:TypeId):∀j u,(Cz (x,y))[j]?=some u->(w.alloc (.cells #[x, y] T)).cell? ((⟨w,0,none⟩:Addr).add j)=some u:=Ws w (.int .i64 x) (.int .i64 y) T
def RH(w:World)(xs:List Int)(c:List Nat)(b B:Nat)(n:Nat)(ys:List Int)(a:World):Prop:=
 (∃D:DU,Lb D (xs++ys)/\a.ownsMap prog 3 (plainElem prog 3) b n D)/\Aa a B [.map (some b)] 290/\Below w w a/\∀D∈c,a.heap[D]?=some (.deferred (some []))
theorem kK{i:Type}{w:World}{xs:List Int}{j:List Nat}{c B B0:Nat}(f:List i->Nat)(g:List i->List Int)(n:c<B0)(l:∀D∈j,D<B0)(m:w<=B0):OwnFrom B0 (λ(pre:List i) a=>RH w xs j c B (f pre) (g pre) a):=by
 rintro pre a k row ⟨⟨D,h1,h2⟩,h3,h4,h5⟩ b hr;refine⟨⟨D,h1,h2.kept b (λe=>?_)⟩,DY B _ _ B0 pre a k row h3 b hr,IW (A1 _) m pre a k row h4 b hr,λD h=>?_⟩
 ·have:=(hr c e.symm).1;omega
 ·refine(b.block D ?_ (λe=>?_)).trans (h5 D h)
  ·rcases BZ D a.heap.size with d|d
   ·exact d
   ·have:=h5 D h;rw[B8 d] at this;cases this
  ·have:=(hr D e.symm).1;have:=l D h;omega
theorem kL(v:Value)(vs:List Vl)(w:World)(N:CU w v vs)(ag:D5 vs)(aK:(As vs).length<=1000000):
 CallsIn Fence.wide 9 prog 137 #[v] w λe w'=>∃a c,e= .returned (.slice a (CR vs).length c)/\w'.ownsRow w.heap.size 113 2 (.slice a (CR vs).length c) (CR vs).length (Af Cz (CR vs))/\Below w w w':=by
 obtain⟨b8,ao,HMany⟩:=Hx3 N ag aK;have hl:=ag.len;obtain⟨a0,c0,rfl⟩:=Fy N;have c8:=LF (.slice a0 vs.length c0) vs w N ag;have ey:= @run_makeMap prog;clear N ag aK;refine M0 func137 rfl trivial ?_ rfl;simp only[ntmps137,D2,BV,C4,Nat.reduceAdd,Nat.reduceSub,F1,F2,GV,F3,B7,D3];gi_wp2;refine⟨trivial,(FR (n:=9-1)|>.2 c8).mono ?_⟩;rintro e i ⟨rfl,bP⟩;have a5:=A0 bP;clear c8 bP;gi_wp2;refine wpIn_loop_ghost (λn a d=>∃(k:Nat) (t:List Nat) (d1 d2 d3 cx cy cz cC cF cK cL cM cP cS cT cU cV cX d0:Value),n=vs.length-k/\k<=vs.length/\a={tmps:=#[.slice a0 vs.length c0,undef, .slice none 0 0, .pointer (some ⟨i+1,0,none⟩),undef,d1,d2,d3,undef,undef,undef, .slice a0 vs.length c0, .bool true, .bool false, .map (some i.heap.size), .slice a0 vs.length c0, .int .i64 (vs.length:Int), .int .i64 (k:Int),cx,cy,cz,cC,cF,cK,cL,cM,cP,cS,cT,cU,cV,cX,d0,undef,undef,undef,undef,undef,undef,undef,undef,undef,undef,undef,undef,undef,undef,undef,undef,undef,undef,undef],defers:=Xd t}/\Hid (Xf w vs k t i.heap.size (i+1) d)) vs.length
  ⟨0,[],undef,undef,undef,undef,undef,undef,undef,undef,undef,undef,undef,undef,undef,undef,undef,undef,undef,undef,rfl,A7 _,rfl,?_⟩ ?_
 ·refine⟨⟨.map [],kz,(World.ownsMap_made i prog 3 (plainElem prog 3)).alloc _⟩,?_,((a5.alloc a5.size _).alloc (by simp;have:=a5.size;omega) _),λD f=>by simp at f,by simp⟩;have h:=Aa.new (i.alloc (.map #[] 0)) [.map (some i.heap.size)] 290
  rwa [Bx] at h
 rintro n a d ⟨k,t,d1,d2,d3,cx,cy,cz,cC,cF,cK,cL,cM,cP,cS,cT,cU,cV,cX,d0,rfl,hk,rfl,U⟩;have g7:=a5.size;clear ey;by_cases a2:k<vs.length
 ·obtain⟨b,off,⟨⟨b2,aX,aT⟩,⟨b3,b0,aU⟩,⟨b4,b1,aV⟩⟩,rfl,hb,au,av,bu,bw,bx,aL⟩:=GX (EJ b8 U.bl) a2;dsimp only[sv] at au av bu bw bx;have aj:=ao.ok vs[k] (BA a2);have ap:Hid (As (vs.take (k+1))=As (vs.take k)++Ax vs[k].2.2):=by
   unfold Hid As;rw[B1 a2,HB];simp
  have da:Hid ((As (vs.take (k+1))).length<=1000000):=by
   unfold Hid;have h:As vs=As (vs.take (k+1))++As (vs.drop (k+1)):=by unfold As;rw[<-HB,IR]
   have h2:=HMany.out;rw[h,A9] at h2;omega
  generalize vs[k]=y at*;obtain⟨d4,b5,r⟩:=y;dsimp only at au av aL aj;have fk:(k:Int)<(vs.length:Int):=by omega
  have g1:(0:Int)<=(k:Int):=by omega
  have ay:Below d d (d.alloc (.cells #[.int .i64 d4, .int .i64 b5, .slice b2 aX aT, .slice b3 b0 aU, .slice b4 b1 aV] 78)):=(A2 _ _).alloc (A1 _) _;gi_wp2;generalize ec:d.alloc (.cells #[.int .i64 d4, .int .i64 b5, .slice b2 aX aT, .slice b3 b0 aU, .slice b4 b1 aV] 78)=Y at*;refine⟨trivial,(Sz (9-1) (.slice b2 aX aT) (.slice b3 b0 aU) (.slice b4 b1 aV) _ _ Y).mono ?_⟩;rintro e V ⟨rfl,X⟩;have bR:=X.bl;have M:Below d d V:=ay.trans (bR.mono ay.size);have a4:w<=d.heap.size:=U.bl.size;have c9:w<=V.heap.size:=A8 a4 M.size;have cp:=Sy aL 0 b5 (JF aj (E4 _) (E4 _)) (9-1) (by omega) Y.heap.size V M X.bs.1 X.bs.2.1 X.bs.2.2.1;obtain⟨⟨d5,bK,ax⟩,bT,aC,a3,cb⟩:=U.out;have aa:i<d.heap.size:=ax.lt;have bM:RH w (As (vs.take k)) t i.heap.size (i+1) ((As (vs.take k)).length+([]:List (Gu r)).length) (([]:List (Gu r)).map λp=>p.1.2) V:=
   ⟨⟨d5,by simpa using bK,by
     obtain⟨e8,e5,eg,F,f0,J⟩:=ax;exact⟨e8,e5,(M.block _ aa).trans eg,F,by simpa using f0,J⟩⟩,bT.below M,aC.trans (M.mono aC.size),λD f=>(M.block D (by
      rcases BZ D d.heap.size with o|o
      ·exact o
      ·have:=(a3 D f).2;rw[B8 o] at this;cases this)).trans (a3 D f).2⟩
  have Z:∀D∈t,D<d.heap.size:=λD f=>by
   rcases BZ D d.heap.size with o|o
   ·exact o
   ·have:=(a3 D f).2;rw[B8 o] at this;cases this
  obtain⟨W,dT,dn,dd,dc⟩:=Hx5 Z cb (λD f=>(a3 D f).1) aj bM;have bN:=M.size;have e3:Hid (Ax r=(r).map Prod.snd):=rfl;clear X bR M ec ay U aL aj au av bu bw bx bK ax bT aC a3 cb Z bM;gi_wp2;refine LB rfl (by omega) (gf:=254) (lb:=#[.pointer (some ⟨Y,0,none⟩), .pointer (some ⟨Y+1,0,none⟩), .pointer (some ⟨Y+1+1,0,none⟩)]) rfl trivial (enters_of func254 (by kernel_rfl) rfl)
   cp (λ_ _=>trivial) (λ_ _ _ _ _ _ _ _=>trivial) (A2 _ _) (λ_=>rfl)
   (λ(pre:List (Gu r)) d=>RH w (As (vs.take k)) t i.heap.size (i+1) ((As (vs.take k)).length+pre.length) (pre.map λp=>p.1.2) d)
   (λc pre d=>False)
   (kK (B0:=V.heap.size) (λ(pre:List (Gu r))=>(As (vs.take k)).length+pre.length) (λ(pre:List (Gu r))=>pre.map λp=>p.1.2) (B3 aa bN) (λD f=>B3 (W D f) bN) c9)
   (λc=>λs A B row hs _ _=>hs)
   dc.out
   ?round ?done ?stop
  case round=>
   rintro l pre ⟨⟨pk,C⟩,hp⟩ bp K a9 a1;obtain⟨b7,b6⟩:=Hx2 a1 a9;clear a1 a9;gi_wp2;refine b7 _ _ (M4 _ _) trivial b6 ?_;clear b7 b6;rintro ga O bp _ _ _ a9 ek;obtain⟨⟨D,f,q⟩,u,G,I⟩:=a9;have fb:=u.cell 0 rfl;have ch:=dd.ok (pk,C) (by rw[hp];simp);have g4:O.length=0:=by rw[Su ek];rfl
   have g5:=OE ch.2.2;have f6:(Lit.int .i64 C).wf=true:=WalkArith.wf_i64 (by omega);have c5:=keyOf_int_mk underlying3 f6;obtain⟨m,hm⟩:∃m,(As (vs.take k)++O.map λp=>p.1.2).count C=m:=⟨_,rfl⟩;have fr:(As (vs.take k)).length+O.length<1000000:=by
    have h1:=da.out;rw[ap.out,A9] at h1;rw[e3.out,hp] at h1;simp at h1;omega
   have g3:m<=1000000:=by
    have:=List.count_le_length (a:=C) (l:=As (vs.take k)++O.map λp=>p.1.2);rw[hm,A9,B4] at this;omega
   have bO:∀c:Int,D.atKey (.int .i64 C) (.lit (.int .i64 0))= .lit (.int .i64 c)->c=(m:Int):=λc hc=>by
    have h:=f.at0 C;rw[hm] at h;rw[h] at hc;injection hc with hc;injection hc with _ hc;exact hc.symm
   have aM:=kA f C;rw[hm] at aM;have g8:IntKind.i64.wrap ((m:Int)+1)=(m:Int)+1:=C0 _ (by omega);have cq:=plainElem_int (H:=Unit) (P:=prog) (e:=3) underlying3 (a:=(m:Int)+1) (WalkArith.wf_i64 (by omega));obtain⟨f9,an,bb,dk,e0,e2,b9,a6,a7⟩:=Hx9 f q c5 bO aM cq u G I;clear f q c5 bO aM cq u G I ch hm
   gi_wp2_with (first
    |(gi_at_lookup;refine wpListIn_lookup_own_int _ rfl _ _ 290 rfl 3 3 .i64 OX underlying290 underlying3 (kE _) i.heap.size _ D rfl an _ _ rfl bb ?_;intro c ab cr;obtain rfl:=dk c ab;clear ab cr)
    |(gi_at_mapUpdate;refine wpListIn_mapUpdate_own _ rfl _ _ _ 290 rfl 3 3 OX underlying290 (plainElem prog 3) i.heap.size _ D rfl an (by simp[maxLen];omega) _ _ _ rfl rfl bb (Kq ((m:Int)+1)) [] e2 ?_;intro bq eb ad)
    |fail)
   unfold ownPostG;obtain⟨fj,fi,bL⟩:=kH an;have em:(As (vs.take k)).length+(O++[(⟨(pk,C),hp⟩:Gu r)]).length=(As (vs.take k)).length+O.length+1:=by rw[A9,N8];omega
   have et:As (vs.take k)++(O++[(⟨(pk,C),hp⟩:Gu r)]).map (λp=>p.1.2)=As (vs.take k)++O.map (λp=>p.1.2)++[C]:=by rw[D1,C1];rfl
   refine⟨kG (by omega) ad,trivial,⟨_,by rw[et];exact e0,by rw[em];exact eb⟩,?_,?_,λQ J=>?_⟩
   ·exact(ad.block _ b9.lt (λe=>by injection e with e;omega)).trans b9
   ·exact a6.grown ad a6.size (λj e=>by injection e with e;omega)
   ·have hd:=a7 Q J;refine(ad.block Q ?_ (λe=>by injection e with e;subst e;rw[hd] at bL;cases bL)).trans hd;rcases BZ Q bp.heap.size with o|o
    ·exact o
    ·rw[B8 o] at hd;cases hd
  case done=>
   rintro al ys bq ea ct ⟨⟨D,f,q⟩,u,G,I⟩ a1;have aP:ys.map (λp=>p.1.2)=Ax r:=by
    have h:(ys.map (·.1)).map Prod.snd=(r).map Prod.snd:=by rw[ct]
    rw[R0] at h;exact h
   have cs:ys.length=(Ax r).length:=by rw[<-aP,B4]
   have bX:Xf w vs (k+1) (al::t) i.heap.size (i+1) bq:=by
    refine⟨⟨D,?_,?_⟩,u,G,λE S=>?_,VC.2 ⟨λS=>?_,dT⟩⟩
    ·rw[ap.out,<-aP];exact f
    ·rw[ap.out,A9,<-cs];exact q
    ·rcases Dn.1 S with rfl|S
     ·exact⟨A8 c9 ea,a1⟩
     ·exact⟨dn E S,I E S⟩
    ·have:=W al S;omega
   have d6:=A0 bX;clear aP cs bX f q u G I a1 ct cp;gi_wp2;exact⟨vs.length-(k+1),by omega,k+1,al::t,_,_,_,_,_,_,_,_,_,_,_,_,_,_,_,_,_,_,rfl,by omega,rfl,d6⟩
  case stop=>exact λD c pre d _ _ h _=>h.elim
 ·obtain rfl:k=vs.length:=by omega
  have hd:decide ((vs.length:Int)<(vs.length:Int))=false:=A6 (by omega);have f4:vs.take vs.length=vs:=E2 (A1 _);obtain⟨⟨D,f,q⟩,u,G,I,ca⟩:=U.out;rw[f4] at f q;have g6:=kF q;have aK:=HMany.out;have aa:=q.lt;have c0:=u.cell 0 rfl;obtain⟨i0,c4,cu,cv,cw⟩:=BW Pu;have Z:∀D∈t,D<d.heap.size:=λD f=>by
   rcases BZ D d.heap.size with o|o
   ·exact o
   ·have:=(I D f).2;rw[B8 o] at this;cases this
  have a4:=G.size;clear U b8
  gi_wp2_with (first
   |(gi_at_len;refine wpListIn_len_own _ rfl _ 290 rfl 3 3 underlying290 _ i.heap.size _ _ rfl q ?_)
   |(gi_at_make;refine wpListIn_make_own _ rfl _ _ 108 rfl d.heap.size 113 i0 _ 2 underlying108 c4 cu cv _ _ _ (Maps.size D) rfl rfl rfl (by rw[cw];omega) (by simp[maxLen];omega) (A1 _) ?_;intro ak cm T;have e6:ak.cell? ⟨i+1,0,none⟩=some (.map (some i.heap.size)):=(Q3 (a:=⟨i+1,0,none⟩) (T.block _ u.lt (by simp))).trans c0)
   |(gi_at_range;refine wpListIn_range_own _ rfl _ 290 rfl 3 3 OX underlying290 _ i.heap.size _ _ rfl (q.kept T (by simp)) ?_;intro w0 ci aF f1)
   |fail)
  go_frame
  clear c0
  gi_loopw [8] (λv wr=>∃(left:Lit->Bool) (ar:Nat) (L:List (Int×Int)),wr.ranges prog 3 (plainElem prog 3) i.heap.size ak.heap.size (As vs).length D left ar/\L.length+ar<=Maps.size D/\
   wr.ownsRow d.heap.size 113 2 v L.length (Af Cz L)/\v≠ .slice none 0 0/\My D left L/\Below d d wr)
   (λ_ wr=>wr.rangeLeft i.heap.size ak.heap.size)
  case atStart=>
   exact⟨_,_,[],ci,by simp,cm.kept aF (Or.inr (by simp[Value.ownBlock])),by simp,kB D,
    ((A2 _ _).grown T (A1 _) (λj z=>by cases z)).grown aF T.size (λj z=>by cases z)⟩
  case round=>
   obtain⟨left,ar,L,ah,fv,R,cc,a8,af⟩:=hrel;clear cm ci aF f1 e6;have f7:=T.size
   gi_wp2_with (first
    |(gi_at_next;refine wpListIn_next_ranges_ii _ rfl _ rfl 3 3 .i64 .i64 OX underlying3 underlying3 i.heap.size ak.heap.size _ _ _ _ rfl ah ?_ ?_)
    |fail)
   ·intro fu c7;obtain⟨e4,bt,rfl,_,_⟩:=Aw R;obtain⟨g,rfl⟩:∃g,e4=some ⟨g,0,none⟩:=by
     rcases R.2 with⟨h0,h1⟩|⟨g,cap,cur,N,_⟩
     ·exact absurd h0 cc
     ·injection N with N;exact⟨g,N⟩
    have c6:∀p∈L,0<=p.1/\p.1<=1099511627776:=λp hp=>by
     have h1:=((a8.mem p.1).1 ⟨p,hp,rfl⟩).1;rw[f.hs] at h1;have:=kI ao.ok p.1 (by simpa using h1);omega
    obtain rfl:=kD ao.one f c7 a8;have co:=ky (CR vs) c6 (Xc vs) R;obtain⟨bc,a7,ds,W,a6,e1⟩:=Hx6 af I ca Z G R;clear c6 a8 c7 af I ca Z G R ah cc q u T;gi_wp2;refine⟨trivial,(FR (n:=9-1)|>.2 co).mono ?_⟩;rintro e w' ⟨rfl,cl,ac⟩;have g0:d<=g:=Ah e1 g rfl;have bV:=bc.grown ac bc.size (λj z=>by injection z with z;omega);obtain⟨aq,Hrow'⟩:=Hx2 bV cl;clear co cl ac bV;gi_wp2;refine Xe t w' (λQ J=>(aq.block Q (W Q J)).trans (a7 Q J).2) ds (λfa c3=>⟨.slice (some ⟨g,0,none⟩) (CR vs).length bt,by simp[results,Tryz.f137,go_sem],some ⟨g,0,none⟩,bt,rfl,?_,?_⟩)
    ·refine CI (c3.owns Hrow' λe9 ac J=>?_) a4;simp only[Value.ownBlock,Hs] at ac;have:=W e9 J;omega
    ·exact(a6.trans (aq.mono a4)).trans (c3.below (A8 a4 aq.size) (λb hb=>(a7 b hb).1))
   ·intro x c f8 e7 g9 cr es ab cj a2 c1 f2 fz;have ai:=R.kept c1 (Or.inr (row_ne_iter R ah).symm);have cg:=af.grown c1 af.size (λj z=>by cases z;exact f7);have f3:=cg.size;clear f2
    gi_wp2_with (first
     |(gi_at_builtin;refine wpListIn_append_own_at _ rfl _ _ 108 rfl d.heap.size 113 i0 _ 2 16 underlying108 c4 cu cv cw rfl (by decide) _ _ _ rfl (ai.alloc _) ⟨f8,0,none⟩ 1 1 (Cz (x,c)) rfl rfl (kJ _ _ _ _) (DL.one _) (by unfold maxLen;omega) (by omega) (by simp;omega) ?_;intro gb V eS c2 eA g2;go_frame)
     |fail)
    have ck:=(cj.alloc (.cells #[.int .i64 x, .int .i64 c] 113)).kept c2 (row_ne_low ai aa) (row_ne_iter ai cj);refine⟨⟨_,e7,L++[(x,c)],ck,by simp;omega,?_,λf5=>by have:=(eA.1 f5).2;omega,kC a8 es ab,(cg.alloc f3 _).grown c2 (by simp;omega) (λj z=>Ah ai j z)⟩,by rw[ck.left_eq,ah.left_eq];exact a2⟩;rw[A9,N8,JA];simpa using eS
theorem kM(v:Value)(vs:List Vl)(w:World)(f:CU w v vs)(d:D5 vs)(b:(As vs).length<=1000000):
 Calls prog 137 #[v] w λe w'=>∃a c,e= .returned (.slice a (CR vs).length c)/\w'.ownsRow w.heap.size 113 2 (.slice a (CR vs).length c) (CR vs).length (Af Cz (CR vs))/\Below w w w':=(FR (n:=9)).1 (kL v vs w f d b)
end
theorem RI:Em Bn 4:=⟨by decide,λ_=>rfl,λx u a=>by simp at a;rcases a with rfl|rfl|rfl|rfl<;>rfl⟩
theorem kN{w:World}{g i:Nat}{cur:Array Value}{e:TypeId}{a:Nat×Nat}(h:w.heap[g]?=some (.cells cur e a))(v:Value):(w.setCell ⟨g,i,none⟩ v).heap[g]?=some (.cells (cur.setIfInBounds i v) e a):=by
 obtain⟨b,hk⟩:=HO.1 h;show(w.heap.modify g _)[g]?=_;rw[V1 (by rw[Array.size_modify];exact b),Array.getElem_modify_self,hk];rfl
theorem Lc{w:World}{base e size n cap g:Nat}{cs:List Value}(h:w.ownsRow base e size (.slice (some ⟨g,0,none⟩) n cap) n cs)(i:Nat)(v:Value):
 (w.setCell ⟨g,i,none⟩ v).ownsRow base e size (.slice (some ⟨g,0,none⟩) n cap) n (cs.set i v):=by
 obtain⟨hl,h⟩:=h;refine⟨by rw[Di];exact hl,?_⟩;rcases h with⟨h,_⟩|⟨c,b,cur,a,h1,h2,h3,h4,h5,h6⟩
 ·cases h
 ·injection a with q1 q2 q3;injection q1 with q1;injection q1 with q1;subst q1 q3;refine Or.inr ⟨g,cap,cur.setIfInBounds i v,rfl,h1,kN h2 v,h3,h4,by rw[Array.size_setIfInBounds];exact h5,?_⟩;rw[<-h6,Array.toList_setIfInBounds,List.take_set]
theorem BQ{w:World}{base e size n cap g i:Nat}{cs:List Value}{v:Value}(h:w.ownsRow base e size (.slice (some ⟨g,0,none⟩) n cap) n cs)(a:cs[i]?=some v):w.cell? ⟨g,i,none⟩=some v/\w.frozen? ⟨g,i,none⟩=false:=by
 obtain⟨_,h⟩:=h;rcases h with⟨h,_⟩|⟨d,c,cur,b,h1,h2,h3,h4,h5,h6⟩
 ·cases h
 ·injection b with q1 q2 q3;injection q1 with q1;injection q1 with q1;subst q1 q3;rw[<-h6,List.getElem?_take] at a;split at a
  ·exact⟨by unfold World.cell?;simp[h2];simpa using a,by unfold World.frozen?;simp[h2]⟩
  ·cases a
abbrev Mz(n₀:Nat)(a:World)(g m:Nat):Prop:=a.ownsRow n₀ 45 1 (.slice (some ⟨g,0,none⟩) m m) m (List.replicate m (.slice none 0 0))
theorem Xg{n₀:Nat}{a c:World}{g m:Nat}(h:Mz n₀ a g m)(d:Ac a c (λk=>k<n₀)):Be c (.slice (some ⟨g,0,none⟩) m m) (List.replicate m []):=
 Oo (d.owns h λb hb e=>by have:=Ah h b hb;omega) (by simp) λi f j=>by
  simp only[N7];exact(ED (base:=0) (e:=0) (C2 _ _ _ _)).1
theorem kO{n₀:Nat}{a c:World}{g m j:Nat}(h:Mz n₀ a g m){v:Value}{u:Us}(f:a.ownsRow n₀ 47 4 v 1 (Bn u))(d:Ac (a.setCell ⟨g,j,none⟩ v) c (λk=>k<n₀)):Be c (.slice (some ⟨g,0,none⟩) m m) ((List.replicate m []).set j [u]):=by
 have h2:=Lc h j v;have h3:=Jk f (λe=>Cn f h (by decide) g e.symm rfl) j v;refine Oo (d.owns h2 λb hb e=>by have:=Ah h2 b hb;omega) (by simp) λi l o=>?_;by_cases e:i=j
 ·subst e;rw[VB,VB];exact(ED (n:=1) (d.owns (by simpa[Al] using h3) λb hb e=>by have:=Ah h3 b hb;omega)).1
 ·rw[List.getElem_set_ne (λh=>e h.symm),List.getElem_set_ne (λh=>e h.symm)];simp only[N7];exact(ED (base:=0) (e:=0) (C2 _ _ _ _)).1
theorem kQ{m j:Nat}{p:Int×Int}(e:(rC p.1).toNat=j):H7 (List.replicate m []) p=(List.replicate m []).set j [KZ p.1 p.2]:=by
 unfold H7;rw[e,B9,N3];split<;>rfl
end Go.Proofs.YtmajkjjjfodhlaaGreatDoor
