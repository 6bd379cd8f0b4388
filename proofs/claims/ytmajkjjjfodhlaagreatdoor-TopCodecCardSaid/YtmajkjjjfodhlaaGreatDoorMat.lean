/- Part Mat. No condition of its own. -/
import Derived.Test.YtmajkjjjfodhlaaGreatDoorMao
namespace Go.Proofs.YtmajkjjjfodhlaaGreatDoor
open Go.RowKit Tryz Go.Shelf
set_option linter.all false
set_option maxRecDepth 100000
set_option maxHeartbeats 8000000
theorem Hj:type_of%@World.size_setCell:=@World.size_setCell
theorem WE:type_of%@List.find?_eq_some_iff_getElem:=@List.find?_eq_some_iff_getElem
section
attribute [local go_sem] Oper.semAt_some
section
variable {F:Fence} {n:Nat} {P:Program} {l:List Oper} {Q:Exit→Act→World→Prop} {a:Act} {w:World} {S:World→Prop}
theorem OQ{w w':World}{e:TypeId}{size:Nat}{d:Value}{a:List Value}(h:w'.ownsRow w.heap.size e size d (0+1) ([]++a)):
 ∃b cap rest,d= .slice (some ⟨b,0,none⟩) 1 cap/\w.heap.size<=b/\1<=cap/\Aa w' b (a++rest) e:=by
 rcases h.2 with⟨_,h0⟩|⟨g,cap,cur,rfl,hb,hc,f,_,_,c⟩
 ·cases h0
 ·refine⟨g,cap,cur.toList.drop ((0+1)*size),rfl,hb,f,?_⟩;have e:a++cur.toList.drop ((0+1)*size)=cur.toList:=by rw[B7] at c;rw[<-c,IR]
  rw[e];exact hc
theorem Mu{ops:Array Oper}{rest:List Oper}{o:Oper}(l:o.guard=none)(s x:Operand)(t:TypeId)
 (d:o.op= .call {callee:= .builtin .append,args:=#[s,x],argTypes:=#[t,t]})
 (e:TypeId)(i:TypeInfo)(z:Value)(size bytes:Nat)(ht:P.underlying t=some (.slice e))(hi:P.info? e=some i)(hz:i.zero=some z)
 (hsize:i.size=size)(hby:i.bytes=bytes)(hzs:z.cells.size=size)(hsz:0<size)(hs:a.eval s= .slice none 0 0)
 (b0 c:Nat)(news:List Value)(T:TypeId)(hx:a.eval x= .slice (some ⟨b0,0,none⟩) 1 c)(hl:news.length=size)(hnews:Aa w b0 news T)(h1:∀u∈news,u.oneCell'=true)(hbytes:bytes<=140737488355328)
 (h:∀b cap w' f,w.heap.size<=b->1<=cap->Aa w' b (news++f) e->Below w w w'->wpListIn F n P ops Q rest (a.put o.dst (.slice (some ⟨b,0,none⟩) 1 cap)) w'):wpListIn F n P ops Q (o::rest) a w:=
 eZ l s x t d w.heap.size e i z size bytes ht hi hz hsize hby hzs hsz (.slice none 0 0) 0 [] hs (C2 _ _ _ _) ⟨b0,0,none⟩ 1 c news hx (by omega) (λj u m=>by rw[Bo,B2];exact hnews.cell j m) h1 (by simp[maxLen]) (by omega) (A1 _) λp w' d g _=>by
  obtain⟨b,cap,f,rfl,hb,hc,d⟩:=OQ d;exact h b cap w' f hb hc d ((A2 _ _).grown g (A1 _) λk hk=>by cases hk)
theorem jX{ops:Array Oper}{o:Oper}{K:Act->World->Prop}{E:Prop}(l:o.guard=none)(s x:Operand)(t:TypeId)
 (d:o.op= .call {callee:= .builtin .append,args:=#[s,x],argTypes:=#[t,t]})
 (e:TypeId)(i:TypeInfo)(z:Value)(size bytes:Nat)(ht:P.underlying t=some (.slice e))(hi:P.info? e=some i)(hz:i.zero=some z)
 (hsize:i.size=size)(hby:i.bytes=bytes)(hzs:z.cells.size=size)(hsz:0<size)(hs:a.eval s= .slice none 0 0)
 (b0 c:Nat)(news:List Value)(T:TypeId)(hx:a.eval x= .slice (some ⟨b0,0,none⟩) 1 c)(hl:news.length=size)(hnews:Aa w b0 news T)(h1:∀u∈news,u.oneCell'=true)(hbytes:bytes<=140737488355328)
 (h:∀b cap w' f,w.heap.size<=b->1<=cap->Aa w' b (news++f) e->Below w w w'->K (a.put o.dst (.slice (some ⟨b,0,none⟩) 1 cap)) w'):if Region.wanted o (yielded ops a.tmps)=true then Oper.wpIn F n P o a w K Q else E:=
 U5 l s x t d w.heap.size e i z size bytes ht hi hz hsize hby hzs hsz (.slice none 0 0) 0 [] hs (C2 _ _ _ _) ⟨b0,0,none⟩ 1 c news hx (by omega) (λj u m=>by rw[Bo,B2];exact hnews.cell j m) h1 (by simp[maxLen]) (by omega) (A1 _) λp w' d g _=>by
  obtain⟨b,cap,f,rfl,hb,hc,d⟩:=OQ d;exact h b cap w' f hb hc d ((A2 _ _).grown g (A1 _) λk hk=>by cases hk)
theorem Fb{d:Nat}{e:Nat}{b:Array Bool}{o:Oper}{v:Value}(k m:Nat)(g:S w)(q:Gb .any l.toArray b)
 (h:Gb .any l.toArray (b.setIfInBounds k true)->Dj F n P .any l.toArray Q S d e (b.setIfInBounds k true) (a.put o.dst v) w)
 (s:QC l=true:=by kernel_rfl)(r:l[k]?=some o:=by rfl)(hs:Region.noSelect l.toArray=true:=by kernel_rfl)
 (hf:Region.free .any l.toArray b k=true:=by kernel_rfl)(hr:(Region.ready .any l.toArray b).contains k=true:=by kernel_rfl)(p:((List.range l.toArray.size).all λj=>decide (j<d)||(JT .any l.toArray m j).contains k)=true:=by kernel_rfl)
 (f:∀c a w,Q (.panic c) (a.put o.dst v) w->Q (.panic c) a w:=by exact λ_ _ _ h=>h)(t:Region.wanted o (yielded l.toArray a.tmps)=true:=by rfl)
 (hy:∀w,S w->(execOp a.eval o).run P w= .ok (.value v) w:=by intro w i;subst i;go_simp;with_reducible rfl)(hb:∀w,o.about P w a.eval=none:=by exact λ_=>rfl):Dj F n P .any l.toArray Q S d (e+1) b a w:=
 eW k m s r hs hf hr p f t hy hb g q h
theorem OR{c:Nat}{e:Nat}{d:Array Bool}{o:Oper}(k:Nat)
 (h:∀b:Act->World->Prop,Hid (∀a w,Dj F n P .any l.toArray Q S c e (d.setIfInBounds k true) a w->b a w)->if Region.wanted o (yielded l.toArray a.tmps)=true then Oper.wpIn F n P o a w b Q else(∀f,o.about P w a.eval=some f->F.fn f)/\b (a.put o.dst undef) w)
 (hk:c<=k:=by decide)(g:l[k]?=some o:=by rfl)(hr:Region.ready .any l.toArray d=[k]:=by kernel_rfl):
 Dj F n P .any l.toArray Q S c (e+1) d a w:=N1 k hk g hr h
theorem WU{d:Nat}{g:Nat}{e:Array Bool}{o o':Oper}(k c:Nat)
 (h:∀b:Act->World->Prop,Hid (∀a w,Dj F n P .any l.toArray Q S d g (e.setIfInBounds k true) a w->b a w)->if Region.wanted o (yielded l.toArray a.tmps)=true then Oper.wpIn F n P o a w b Q else(∀f,o.about P w a.eval=some f->F.fn f)/\b (a.put o.dst undef) w)
 (i:∀b:Act->World->Prop,Hid (∀a w,Dj F n P .any l.toArray Q S d g (e.setIfInBounds c true) a w->b a w)->if Region.wanted o' (yielded l.toArray a.tmps)=true then Oper.wpIn F n P o' a w b Q else(∀f,o'.about P w a.eval=some f->F.fn f)/\b (a.put o'.dst undef) w)
 (hk:d<=k:=by decide)(j:d<=c:=by decide)(m:l[k]?=some o:=by rfl)(p:l[c]?=some o':=by rfl)(hr:Region.ready .any l.toArray e=[k,c]:=by kernel_rfl):
 Dj F n P .any l.toArray Q S d (g+1) e a w:=eY k c hk j m p hr h i
end
theorem jY(m:Nat)(w:World):
 CallsIn Fence.wide m prog 307 #[.int .i64 1] w λe w'=>e= .returned (.func (.func 353) #[] #[.pointer (some ⟨w+1,0,none⟩), .pointer (some ⟨w,0,none⟩)])/\St w w' [([.int .i64 1],3),([.int .i64 1],3)]:=by
 refine Ht func307 rfl trivial ?_ rfl;simp only[ntmps307,D2,BV,C4,Nat.reduceAdd,Nat.reduceSub,F1,F2,GV,F3,B7,D3];gi_wp2;go_ret;exact⟨rfl,Po w [([.int .i64 1],3),([.int .i64 1],3)]⟩
theorem jZ(m:Nat)(hm:1<=m)(b1 b2:Nat)(w:World)(h1:Aa w b1 [.int .i64 1] 3)(h2:Aa w b2 [.int .i64 1] 3):
 SeqStopsK Fence.wide m prog 353 #[.pointer (some ⟨b1,0,none⟩), .pointer (some ⟨b2,0,none⟩)] (λ_:Unit=>#[.int .i64 0, .int .i64 1]) Pt (λys=>ys=[()]) (λys=>ys=[()]) 1 w:=λl k n g d b _ i h0=>by
 have c1:=(h1.below d).cell 0 rfl;have c2:=(h2.below d).cell 0 rfl;obtain⟨p,tmps,assign,body,hy,h⟩:=Ps (m-1) (i [] () g.drew (b _ _ _ none h0 ⟨rfl,rfl,rfl,A1 _,λ_ _ _=>rfl⟩ (λ_ e=>by cases e)) (by decide));clear i h0 b d h1 h2;have q:IntKind.i64.wrap 0=0:=by decide
 have r:IntKind.i64.wrap 1=1:=by decide
 refine Ht func353 rfl trivial ?_ rfl;simp only[ntmps353,D2,BV,C4,Nat.reduceAdd,Nat.reduceSub,F1,F2,GV,F3,B7,D3];gi_wp2;refine GW λK j=>?_;gi_wp2;refine U4 (S:=λw'=>w'=g.drew) 12 (by kernel_rfl) 14 rfl (λa=>?_);refine Fb 0 6 rfl a λa=>?_;refine Fb 1 6 rfl a λa=>?_;refine Fb 2 6 rfl a λa=>?_;refine Fb 3 6 rfl a λa=>?_;refine Fb 4 6 rfl a λa=>?_;refine Fb 5 6 rfl a λa=>?_;refine Fb 6 6 rfl a λa=>?_;refine Fb 7 6 rfl a λa=>?_;refine Fb 8 6 rfl a λa=>?_;refine Fb 9 6 rfl a λa=>?_;refine Fb 10 6 rfl a λa=>?_;refine Fb 11 6 rfl a λa=>?_;refine Px ?_;refine N1 12 (A1 _) rfl (by kernel_rfl) (λc h2=>?_);go_simp;refine h.mono ?_;rintro e o (⟨rfl,b,_⟩|⟨rfl,b⟩)<;>have f:=A0 b<;>clear b h hy<;>refine h2 _ _ ?_<;>clear h2 c<;>(refine Px ?_)<;>
  refine N1 13 (by decide) rfl (by kernel_rfl) (λc h2=>?_)<;>go_simp<;>refine h2 _ _ ?_<;>clear h2 c<;>(refine Px ?_)<;>
  refine N4 (by kernel_rfl) ?_ _
 ·gi_wp2;refine j _ _ ?_;gi_wp2
  go_end0
  exact⟨⟨_,rfl⟩, .inl ⟨_,rfl,f⟩⟩
 ·gi_wp2;refine A5 (results_none rfl _ _ _) rfl ?_;exact⟨⟨_,rfl⟩, .inr ⟨_,rfl,f⟩⟩
theorem Ry:(prog.info? 3).map (λi=>(i.zero,i.size,i.bytes))=some (some (.int .i64 0),1,8):=by kernel_rfl
theorem WV:(prog.info? 76).map (λi=>(i.zero,i.size,i.bytes))=some (some (.agg #[.slice none 0 0, .slice none 0 0, .slice none 0 0]),3,72):=by kernel_rfl
theorem Rz{d:Type}(P:Nat->Prop)(s:NS)(t:Tr)(B:Nat):OwnFrom B (λ(_:d) c=>NodeP c P s t):=by
 rintro _ c f row h a hr;have hs:=a.size;cases h with
 |nil=>exact .nil
 |one ha hb pa pb hc hd ea eb=>exact .one (by omega) (by omega) pa pb hc hd (Hn ea a λb e=>(hr b e).2) (Hn eb a λb e=>(hr b e).2)
def RA(n₀ b:Nat)(t:Tr)(a:World):Prop:=∃(L c:Nat) (s:NS),Boxed a b 74 (.slice (some ⟨L,0,none⟩) 1 c)/\a.cell? ⟨L,0,none⟩=some (sv s.1)/\a.cell? ⟨L,1,none⟩=some (sv s.2.1)/\a.cell? ⟨L,2,none⟩=some (sv s.2.2)/\NodeP a (λb=>n₀<=b) s t
theorem kb{h:Type}(n₀ b:Nat)(t:Tr)(B:Nat):OwnFrom B (λ(_:h) f=>RA n₀ b t f):=by
 rintro x f g row ⟨L,c,s,h1,h2,h3,h4,h5⟩ a hr;exact⟨L,c,s,JD _ _ _ B x f g row h1 a hr,Hn h2 a λd e=>(hr d e).2,Hn h3 a λd e=>(hr d e).2,Hn h4 a λd e=>(hr d e).2,Rz _ _ _ B x f g row h5 a hr⟩
abbrev FT:List Value:=[.slice none 0 0, .slice none 0 0, .slice none 0 0]
theorem kd(g c:Nat)(k v:Int)(hc:1<=c)(w:World)(c3:w.cell? ⟨g,0,none⟩=some (.int .i64 k))(c4:w.cell? ⟨g,1,none⟩=some (.int .i64 v))(O:g<w.heap.size):
 CallsIn Fence.wide 6 prog 259 #[.slice (some ⟨g,0,none⟩) 1 c] w λe w'=>∃s:NS,e= .returned (.agg #[sv s.1,sv s.2.1,sv s.2.2])/\NodeP w' (λb=>w<=b) s [(k,v)]/\Below w w w':=by
 obtain⟨i3,b9,bL,bM,bN⟩:=BW Ry;obtain⟨cl,cb,ci,cj,ck⟩:=BW WV;refine M0 func259 rfl trivial ?_ rfl;simp only[ntmps259,D2,BV,C4,Nat.reduceAdd,Nat.reduceSub,F1,F2,GV,F3,B7,D3];obtain⟨Y,c6,cT,S⟩:=FZ w [([.slice (some ⟨g,0,none⟩) 1 c],108),(FT,76),([.slice none 0 0],74)];dsimp only[DM] at c6;have bO:=S.bs.1.cell 0 rfl;gi_wp2;refine⟨trivial,(jY (6-1) Y).mono ?_⟩;rintro e b0 ⟨rfl,ao⟩;have G:=S.call ao.bl;have bK:=jZ (6-1) (by omega) (Y+1) Y.heap.size b0 ao.bs.2.1 ao.bs.1;have bu:=G.bl.size;clear bO;gi_wp2;refine LB rfl (by omega) (gf:=353) (lb:=#[.pointer (some ⟨Y+1,0,none⟩), .pointer (some ⟨Y,0,none⟩)]) rfl trivial (enters_of func353 (by kernel_rfl) rfl)
  bK (λ_ _=>trivial) (λ_ _ _ _ _ _ _ _=>trivial) (A2 _ _) (λ_=>rfl)
  (λpre d=>((pre=[]->Boxed d (w+1+1) 74 (.slice none 0 0))/\(pre=[()]->RA (w+3) (w+1+1) [(k,v)] d))/\(Aa d w.heap.size [.slice (some ⟨g,0,none⟩) 1 c] 108/\Aa d (w+1) FT 76)/\Below w w d)
  (λ_ _ _=>False)
  (G6 (G6 (λs A B row h O hr e=>JD _ _ _ _ s A B row (h e) O hr) (λs A B row h O hr e=>kb _ _ _ _ s A B row (h e) O hr)) (G6 (G6 (DY _ _ _ _) (DY _ _ _ _)) (IW (A1 _) bu)))
  (λ_ _ _ _ _ hs _ _=>hs)
  ⟨⟨λ_=>G.bs.2.2.1,λe=>by cases e⟩,⟨G.bs.1,G.bs.2.1⟩,G.bl⟩
  ?round ?done ?stop
 case stop=>exact λD c pre d _ _ h _=>h.elim
 case round=>
  rintro l pre _ d K b4 a;obtain⟨aM,aL⟩:=Hx2 a b4;clear a b4;gi_wp2;refine aM _ _ (M4 _ _) trivial aL ?_;clear aM aL;rintro cU cq f _ _ _ ⟨⟨m,_⟩,⟨a9,M⟩,z⟩ cS;obtain rfl:cq=[]:=FA.1 (by omega);have m:=m rfl;obtain⟨b1,cL,_,N,an⟩:=Fx f FT 76;obtain⟨bT,bR⟩:=Hx2 m (Aa.below m N);have cP:=Aa.lt m;obtain⟨bP,aT,c0,E⟩:=Hx4 (GU N λb=>b=w.heap.size+1+1) (a9.below N) (M.below N) (z.trans (N.mono z.size));have bO:=aT.cell 0 rfl;have d0:=(E.cell (p:=⟨g,0,none⟩) O).trans c3;have d1:=(E.cell (p:=⟨g,1,none⟩) O).trans c4;have ai:=A0 an;have n0:=an.cell 0 rfl;have cX:=an.lt;obtain⟨X,J,_,ap⟩:=FZ b1 [([k, v],113),([k],3)];dsimp only[DM] at J;clear m a9 M z N;gi_wp2;refine GW λK a=>?_
  gi_wp2_with (first
   |(gi_at_builtin;refine Mu rfl _ _ 73 rfl 3 i3 _ 1 8 underlying73 b9 bL bM bN rfl (by decide) rfl (b1+1) 1 [k] 3 rfl rfl ap.bs.2.1 (KD.one k) (by decide) ?_
     intro q x aq d3 c8 b7 bq b5;have W:=ap.call b5;have F:=ai.below W.bl;have cr:=W.bs.1.cell 1 rfl;have cs:=F.cell 1 rfl;have ct:=F.cell 0 rfl;have cu:=F.free 0;have cV:=F.lt;obtain⟨cy,c7,_,aa,ad⟩:=Fx (aq.setCell ⟨f,0,none⟩ (.slice (some ⟨q,0,none⟩) 1 x)) [v] 3;rw[Hj] at ad)
   |(gi_at_builtin;refine Mu rfl _ _ 73 rfl 3 i3 _ 1 8 underlying73 b9 bL bM bN rfl (by decide) rfl aq.heap.size 1 [v] 3 rfl rfl ad (KD.one v) (by decide) ?_
     intro r y b2 d4 c9 b8 bt av;have a6:=((F.set 0 (.slice (some ⟨q,0,none⟩) 1 x)).below aa).below av;have t1:=a6.cell 1 rfl;have t2:=a6.free 1;have c2:=A0 (a6.set 1 (.slice (some ⟨r,0,none⟩) 1 y));have af:=((Ad aq f.heap.size 0 (.slice (some ⟨q,0,none⟩) 1 x)).trans ((GU aa _).trans (GU av _))).trans (Ad b2 f.heap.size 1 (.slice (some ⟨r,0,none⟩) 1 y));have cg:=W.bl.size;have ch:=ap.bl.size;have bw:=aa.size;rw[Hj] at bw;obtain⟨aU,aX,aF⟩:=Hx3 (Gt bq af (by omega)) (bt.other (c:=f.heap.size) (by omega) 1 (.slice (some ⟨r,0,none⟩) 1 y)) ((GU W.bl _).trans af);have bb:f<=q/\f<=r:=by omega
     obtain⟨aK,aP⟩:=Hx2 (And.intro b7 b8) bb;clear a6 F af cg ch bw bq bt c8 c9 av aa ad c7 W b5 cr cs ct cu bb b7 b8)
   |fail)
  refine a _ _ ?_;clear t1 t2;gi_wp2;generalize b2.setCell _ _=j at*;have al:=Gt bR aF (by omega);have HNode:Hid (NodeP j (λb=>f<=b) ((some ⟨q,0,none⟩,1,x),(some ⟨r,0,none⟩,1,y),z3) [(k,v)]):= .one aU.lt aX.lt aP.out.1 aP.out.2 aK.out.1 aK.out.2 (aU.cell 0 rfl) (aX.cell 0 rfl);have c1:Hid (∀X,Ac j X (λb=>b=w.heap.size+1+1)->KeepsOthers f X/\(Aa X w.heap.size [.slice (some ⟨g,0,none⟩) 1 c] 108/\Aa X (w+1) FT 76)/\Below w w X):=λX J=>by
   have H:=(aF.mono (R':=λb=>b=f.heap.size\/b=w.heap.size+1+1) λ_ _=> .inl).trans (J.mono λ_ _=> .inr);have h6:=bP.trans' H λi ca h=>h.elim (λe=>by omega) id;exact⟨h6.others λk o hk bp=>by rw[hk,show f.heap[w.heap.size+1+1]?=_ from bT.out] at bp;cases bp;rfl,⟨Gt aT H (by omega),Gt c0 H (by omega)⟩,E.trans (H.below E.size λk hk=>by omega)⟩
  have aV:Aa j f.heap.size [.slice (some ⟨q,0,none⟩) 1 x, .slice (some ⟨r,0,none⟩) 1 y, .slice none 0 0] 76:=c2.out;refine U4 (S:=λd=>Boxed d (w+1+1) 74 (.slice none 0 0)/\Aa d f.heap.size [.slice (some ⟨q,0,none⟩) 1 x, .slice (some ⟨r,0,none⟩) 1 y, .slice none 0 0] 76) 4 (by kernel_rfl) 8 rfl (λt=>?_);have I:=And.intro (Aa.drew al) aV.drew;refine Fb 0 6 I t (λt=>?_) (hy:=by intro w' C;have:=H1 C.1;clear C;go_simp;with_reducible rfl);refine Fb 1 6 I t (λt=>?_) (hy:=by intro w' C;obtain⟨P,Q,T,_⟩:=C.2.three;clear C;go_simp;with_reducible rfl);refine Fb 2 6 I t (λt=>?_) (hy:=by intro w' C;clear C;go_simp;with_reducible rfl);refine Px ?_;refine eX 3 rfl (by kernel_rfl) t (λK a=>?_);go_simp;have a8:=KC j.drew (.cells FT.toArray 76);have aC:=Aa.new j.drew FT 76;have a5:=Aa.below I.1 a8;refine a _ _ ⟨a5,I.2.below a8⟩ (λt=>?_);clear a K;refine Px ?_;refine N1 4 (by decide) rfl (by kernel_rfl) (λK a=>?_);refine jX (by rfl) _ _ 74 (by rfl) 76 cl _ 3 72 underlying74 cb ci cj ck rfl (by decide) (by rfl) j.heap.size 1 FT 76 (by rfl) rfl aC (by decide) (by decide) ?_;intro L ar b3 cv b6 cM u ax;have cc:=a5.lt;have cC:=al.lt;have cF:j.heap.size+1<=L:=by simpa using b6
  have a7:Below j j b3:=((A2 _ _).drew.trans a8).trans (ax.mono (by simp));have a4:=Aa.below a5 ax;have dc:=u.cell 0 rfl;have dd:=u.cell 1 rfl;have dk:=u.cell 2 rfl;have d5:=u.free 0;have d6:=u.free 1;have da:=u.free 2;have d2:=H1 a4;have dn:=Boxed.frozen a4;have n:L≠w.heap.size+1+1:=by omega
  have ay:w.heap.size+1+1≠L:=by omega
  obtain⟨bV,ah,aj⟩:=Hx3 (EU (R:=λb=>b=L) (Dq (P':=λb=>f<=b/\b<j.heap.size) HNode λb hb h=>⟨h,hb⟩) (GU a7 _) λb hb e=>by omega) a4 u;have ak:Hid (∀X,Ac b3 X (λb=>b=L\/b=w.heap.size+1+1)->Aa X (w+1+1) [.slice (some ⟨L,0,none⟩) 1 ar] 74->Aa X L ([.slice (some ⟨q,0,none⟩) 1 x, .slice (some ⟨r,0,none⟩) 1 y, .slice none 0 0]++cv) 76->
   KeepsOthers f X/\RA (w+3) (w+1+1) [(k,v)] X/\(Aa X w.heap.size [.slice (some ⟨g,0,none⟩) 1 c] 108/\Aa X (w+1) FT 76)/\Below w w X):=λX J hb hr=>by
   obtain⟨h1,h2,h3⟩:=c1 X ((GU a7 _).trans' J λi ca h=>h.resolve_left (by omega));exact⟨h1,⟨L,ar,_,hb,hr.cell 0 rfl,hr.cell 1 rfl,hr.cell 2 rfl,Dq (EU bV J λb hb e=>by omega) λb _ hb=>by omega⟩,h2,h3⟩
  have cx:=A0 a7;refine a _ _ ?_;clear a K I a8 aC a5 ax a7 a4 u al aV cc b6;refine Px ?_;refine WU 5 7 (λK a=>?_) (λK a=>?_)<;>go_simp<;>refine a _ _ ?_<;>clear a K<;>(refine Px ?_)
  ·refine WU 6 7 (λK a=>?_) (λK a=>?_)<;>go_simp<;>refine a _ _ ?_<;>clear a K<;>(refine Px ?_)
   ·refine OR 7 (λK a=>?_);go_simp;refine a _ _ ?_;clear a K;refine N4 (by kernel_rfl) ?_ _;gi_wp2;obtain⟨U,V,z3⟩:=ak _ ((((Db _ _ _ _ (.inl rfl)).trans (Db _ _ _ _ (.inl rfl))).trans (Db _ _ _ _ (.inl rfl))).trans (Db _ _ _ _ (.inr rfl))) ((((Aa.other ah n 0 _).other n 1 _).other n 2 _).set 0 _) ((((aj.set 0 _).set 1 _).set 2 _).other ay 0 _);exact⟨U.from _,trivial,⟨nofun,λ_=>V⟩,z3⟩
   ·refine OR 6 (λK a=>?_);go_simp;refine a _ _ ?_;clear a K;refine N4 (by kernel_rfl) ?_ _;gi_wp2;obtain⟨U,V,z3⟩:=ak _ ((((Db _ _ _ _ (.inr rfl)).trans (Db _ _ _ _ (.inl rfl))).trans (Db _ _ _ _ (.inl rfl))).trans (Db _ _ _ _ (.inl rfl))) ((((Aa.set ah 0 _).other n 0 _).other n 1 _).other n 2 _) ((((aj.other ay 0 _).set 0 _).set 1 _).set 2 _);exact⟨U.from _,trivial,⟨nofun,λ_=>V⟩,z3⟩
  ·refine OR 5 (λK a=>?_);go_simp;refine a _ _ ?_;clear a K;refine Px ?_;refine OR 6 (λK a=>?_);go_simp;refine a _ _ ?_;clear a K;refine N4 (by kernel_rfl) ?_ _;gi_wp2;obtain⟨U,V,z3⟩:=ak _ ((((Db _ _ _ _ (.inr rfl)).trans (Db _ _ _ _ (.inl rfl))).trans (Db _ _ _ _ (.inl rfl))).trans (Db _ _ _ _ (.inl rfl))) ((((Aa.set ah 0 _).other n 0 _).other n 1 _).other n 2 _) ((((aj.other ay 0 _).set 0 _).set 1 _).set 2 _);exact⟨U.from _,trivial,⟨nofun,λ_=>V⟩,z3⟩
 case done=>
  rintro D ys d H rfl ⟨⟨_,m⟩,⟨a9,M⟩,z⟩ a;obtain⟨L,ar,⟨⟨a1,n0,P⟩,⟨a2,Z,Q⟩,⟨a3,a0,T⟩⟩,hb,cm,co,cp,bc⟩:=m rfl;dsimp only[sv] at cm co cp;have cz:=H1 hb;obtain⟨ds,U,V,f0,f1,f2⟩:=M.three;have bx:=((M.set 0 (.slice a1 n0 P)).set 1 (.slice a2 Z Q)).set 2 (.slice a3 a0 T);have ab:=((Ad d (w+1) 0 (.slice a1 n0 P)).trans (Ad _ (w+1) 1 (.slice a2 Z Q))).trans (Ad _ (w+1) 2 (.slice a3 a0 T));have c5:D<d.heap.size:=by
   rcases BZ D d.heap.size with au|au
   ·exact au
   ·rw[B8 au] at a;cases a
  have cK:w.heap.size+1<D:=by have:=G.size;simp at this;omega
  obtain⟨ag,bX,ai,E⟩:=Hx4 ((ab.block D c5 (by omega)).trans a) bx (EU bc ab λb hb e=>by omega) (z.trans (ab.below z.size λk hk=>by omega));clear hb M bx ab bc z a a9 m bK;gi_wp2;refine GW λK a=>?_;gi_wp2;have hr:∀ac,some D=some ac->0<=ac/\∃o:Obj,(((d.setCell ⟨w+1,0,none⟩ (.slice a1 n0 P)).setCell ⟨w+1,1,none⟩ (.slice a2 Z Q)).setCell ⟨w+1,2,none⟩ (.slice a3 a0 T)).heap[ac]?=some o/\o.isCells=false:=λac e=>by cases e;exact⟨A7 _,_,ag,rfl⟩
  refine⟨by simp, .inl ⟨_,_,rfl,I0 ag,?_⟩⟩;obtain⟨cw,t1,t2,_⟩:=(DY _ _ _ 0 () _ _ _ bX (Hv _ D (.deferred none)) hr).three;refine⟨.agg #[.slice a1 n0 P, .slice a2 Z Q, .slice a3 a0 T],by simp[results,Tryz.f259,go_sem,cw,t1,t2],((a1,n0,P),(a2,Z,Q),(a3,a0,T)),rfl,Dq (Rz _ _ _ 0 () _ _ _ ai (Hv _ D (.deferred none)) hr) λb _ hb=>by omega,E.trans (belowK_b (w:=b0) bu _ D _ _ H ag rfl rfl)⟩
end
def I1(w:World)(P:Nat->Prop)(s:S3):Option Int->Prop
 |none=>s=z3
 |some k=>∃a c,s=(some ⟨a,0,none⟩,1,c)/\a<w.heap.size/\P a/\1<=c/\w.cell? ⟨a,0,none⟩=some (.int .i64 k)
theorem RB{w:World}{P:Nat->Prop}{n:NS}{t:Tr}(h:NodeP w P n t):I1 w P n.1 (t.head?.map (·.1))/\I1 w P n.2.1 (t.head?.map (·.2))/\n.2.2=z3/\t=t.head?.toList:=by
 cases h with
 |nil=>exact⟨rfl,rfl,rfl,rfl⟩
 |one ha hb pa pb hc hd ea eb=>exact⟨⟨_,_,rfl,ha,pa,hc,ea⟩,⟨_,_,rfl,hb,pb,hd,eb⟩,rfl,rfl⟩
theorem RC{w:World}{P:Nat->Prop}{f g:S3}{t:Tr}(h0:I1 w P f (t.head?.map (·.1)))(h1:I1 w P g (t.head?.map (·.2)))(h2:t=t.head?.toList):NodeP w P (f,g,z3) t:=by
 rw[h2];cases e:t.head? with
 |none=>
  rw[e] at h0 h1;obtain rfl:f=z3:=h0;obtain rfl:g=z3:=h1;exact .nil
 |some p=>
  rw[e] at h0 h1;obtain⟨a,c,rfl,ha,pa,hc,ea⟩:=h0;obtain⟨b,d,rfl,hb,pb,hd,eb⟩:=h1;exact .one ha hb pa pb hc hd ea eb
theorem Dm{w w':World}{P R:Nat->Prop}{s:S3}:∀{o:Option Int},I1 w P s o->Ac w w' R->(∀b,P b->¬R b)->I1 w' P s o
 |none,h,_,_=>h
 |some _,⟨a,c,h1,h2,h3,h4,h5⟩,d,hr=>⟨a,c,h1,B3 h2 d.size,h3,h4,(d.cell h2 (hr a h3)).trans h5⟩
theorem K8{w:World}{P P':Nat->Prop}{s:S3}:∀{o:Option Int},I1 w P s o->(∀b,b<w.heap.size->P b->P' b)->I1 w P' s o
 |none,h,_=>h
 |some _,⟨a,c,h1,h2,h3,h4,h5⟩,hp=>⟨a,c,h1,h2,hp a h2 h3,h4,h5⟩
def BP(a:World)(b:Nat):Prop:=∃c T,a.heap[b]?=some (Obj.cells c T (0,0))/\(T=3\/T=76)
theorem WW:(prog.info? 3).map (λi=>(i.zero,i.size,i.bytes))=some (some (.int .i64 0),1,8):=by kernel_rfl
theorem La(s:S3)(o:Option Int){w0:World}(h:I1 w0 (λ_=>True) s o)(w:World)(i:Below w0 w0 w):
 Calls prog 164 #[.slice s.1 s.2.1 s.2.2] w λe w'=>∃f:S3,e= .returned (.slice f.1 f.2.1 f.2.2)/\I1 w' (λb=>w<=b/\BP w' b) f o/\Below w w w':=by
 obtain⟨i0,v,y,z,A⟩:=BW WW;cases o with
 |none=>
  obtain rfl:s=z3:=h;have x:=λl:World=>E3 (P:=prog) l 73 3 none 0 0 0 0 underlying73;go_enter func164,ntmps164;go_wp2_with fail;go_ret;exact⟨z3,rfl,rfl,A2 _ _⟩
 |some k=>
  obtain⟨a,c,rfl,ha,_,hc,ea⟩:=h;have x:=λl:World=>E3 (P:=prog) l 73 3 (some ⟨a,0,none⟩) 1 c 0 0 underlying73;have m:=A0 (Is w 3 1);have ea:=(((KC w (.cells #[] 3)).cell (p:=⟨a,0,none⟩) (B3 ha i.size)).trans (i.cell (p:=⟨a,0,none⟩) ha)).trans ea;have q:Hid (∀j u,[Value.int .i64 k][j]?=some u->(w.alloc (.cells #[] 3)).cell? ((⟨a,0,none⟩:Addr).add j)=some u):=λj u d=>by
   rw[Bo,B2];cases j with
   |zero=>injection d with d;rw[<-d];exact ea
   |succ j=>cases d
  clear i ha;dsimp only;go_enter func164,ntmps164;go_wp2_with (at_builtin;refine Ho _ rfl _ _ 73 rfl w.heap.size 3 i0 _ 1 8 underlying73 v y z A rfl (by decide) _ 0 _ rfl m ⟨a,0,none⟩ 1 c [k] rfl rfl q (KD.one k) (by simp[maxLen]) (by decide) (by simp) ?_;intro C w' n t _)
  obtain⟨g,cap,B,rfl,_,hc,hb⟩:=OQ n;have r:=Ah n g rfl;go_ret;exact⟨(some ⟨g,0,none⟩,1,cap),rfl,⟨g,cap,rfl,hb.lt,⟨r,_,_,hb, .inl rfl⟩,hc,hb.cell 0 rfl⟩,((A2 _ _).alloc (A1 _) _).grown t (by simp) (λk hk=>Ah m k hk)⟩
theorem ke:(prog.info? 78).map (λi=>(i.zero,i.size,i.bytes))=some (some (.agg #[.int .i64 0, .int .i64 0, .slice none 0 0, .slice none 0 0, .slice none 0 0]),5,88):=by kernel_rfl
theorem WX(v:Value)(l:List (V5))(w:World)(b:Av w v 5 DZ l)(hl:l.length<=10000000):
 Calls prog 114 #[v] w λe w'=>∃a c,e= .returned (.slice a l.length c)/\w'.ownsRow w.heap.size 78 5 (.slice a l.length c) l.length (Af DZ l)/\Below w w w':=by
 obtain⟨i0,o,r,s,t⟩:=BW ke;obtain⟨j,m,rfl,u,p,_⟩:=id b;obtain⟨g,h⟩:=Hx2 (Is w 78 5) (Aj b ((A2 _ _).alloc (A1 _) (.cells #[] 78)));cases j with
 |none=>
  obtain rfl:=p rfl;obtain rfl:l=[]:=FA.1 (by omega);have q:=λf:World=>E3 (P:=prog) f 28 78 none 0 0 0 0 underlying28;clear b;go_enter func114,ntmps114;go_wp2_with fail;go_ret;exact⟨none,0,rfl,C2 _ _ _ _,A2 _ _⟩
 |some a=>
  have q:=λf:World=>E3 (P:=prog) f 28 78 (some a) l.length m 0 0 underlying28;clear b;go_enter func114,ntmps114;go_wp2_with (at_builtin;refine IU Gw (ys:=l) rfl _ _ 28 rfl w.heap.size 78 i0 _ 88 underlying28 o r s t rfl _ 0 _ rfl g _ rfl h (by simp[maxLen];omega) (by omega) (by simp) ?_;intro x w' d n _)
  rw[B2,B7] at d;obtain⟨i,c2,rfl,_,_⟩:=Aw d;have hb:Below w w w':=((A2 _ _).alloc (A1 _) _).grown n (by simp) (λk hk=>Ah g k hk);go_ret;exact⟨i,c2,rfl,d,hb⟩
theorem OS{a e:World}{R:Nat->Prop}{b:Nat}(h:BP a b)(g:Ac a e R)(hr:¬R b):BP e b:=by
 obtain⟨c,T,h,f⟩:=h;refine⟨c,T,(g.block b ?_ hr).trans h,f⟩;rcases BZ b a.heap.size with d|d
 ·exact d
 ·rw[B8 d] at h;cases h
abbrev IB(a:World)(n:NS)(t:Tr):Prop:=NodeP a (BP a) n t
theorem Mv{a c:World}{R:Nat->Prop}{n:NS}{t:Tr}(h:IB a n t)(e:Ac a c R)(hr:∀b,R b->¬BP a b):IB c n t:=
 EU (Dq h λb _ hp=>(⟨hp,OS hp e λd=>hr b d hp⟩:BP a b/\BP c b)) e (λb hp d=>hr b d hp.1)|>λh=>Dq h λ_ _ hp=>hp.2
theorem kf{a b:World}{n:NS}{t:Tr}(h:IB a n t)(hb:Below a a b):IB b n t:=Mv h (Ai hb) λ_ h=>h.elim
theorem kg{a:World}{b:Nat}{vs:List Value}(h:Aa a b vs 78):¬BP a b:=by
 rintro⟨c,T,hc,d⟩;unfold Aa at h;rw[h] at hc;injection hc with hc;injection hc with _ hc;rw[<-hc] at d;exact absurd d (by decide)
theorem Cw{a:World}{b:Nat}{vs:List Value}{T:TypeId}(h:Aa a b vs T)(e:¬(T=3\/T=76)):¬BP a b:=by
 rintro⟨c,f,hc,d⟩;unfold Aa at h;rw[h] at hc;injection hc with hc;injection hc with _ hc;rw[<-hc] at d;exact e d
theorem kh(a:World):(Instr.makeMap 335 none).run prog a= .ok (.map (some a.heap.size)) (a.alloc (.map #[] 0)):=by
 simp[Instr.makeMap]
abbrev OU:List Value:=[.int .i64 0, .int .i64 0, .slice none 0 0, .slice none 0 0, .slice none 0 0]
theorem RD{w0:World}{n:NS}{t:Tr}(h:Bp w0 n t)(id size:Int)(w:World)(E:Below w0 w0 w):
 Calls prog 189 #[.agg #[id, size,sv n.1,sv n.2.1,sv n.2.2]] w λe w'=>∃F:NS,e= .returned (.agg #[id, size,sv F.1,sv F.2.1,sv F.2.2])/\IB w' F t/\Below w w w':=by
 obtain⟨h0,h1,h2,au⟩:=RB h;obtain⟨⟨a0,n0,l⟩,⟨a1,o,m⟩,ax⟩:=n;obtain rfl:ax=z3:=h2;dsimp only[sv] at h0 h1⊢;obtain⟨U,ar,ay,H⟩:=FZ w [([id, size,Value.slice a0 n0 l, .slice a1 o m, .slice none 0 0],78),(OU,78),([Value.slice a0 n0 l, .slice a1 o m, .slice none 0 0],76)];obtain⟨r,aL,aC,Z,G⟩:=Fx (U.alloc (.map #[] 0)) [.slice (some ⟨w+1+1,0,none⟩) 1 1] 74;dsimp only[DM] at ar;rw[Bx] at G;have q:=(H.call (KC U (.map #[] 0))).call Z;obtain⟨c0,c1,c2,c3,c4⟩:=q.bs.1.five;obtain⟨B,d1,d2,W,g1,g2⟩:=q.bs.2.2.1.three;obtain⟨aj,ak,al,an,ao⟩:=H.bs.1.five;have hk:=kh;have ah:=G.cell 0 rfl;clear h Z;go_enter func189,ntmps189;go_wp2_with fail;refine En λK ap=>?_;go_wp2_with fail;refine En λaF aq=>?_;have Q:=Aa.new r [.slice a0 n0 l, .slice a1 o m, .slice none 0 0] 76;have R:=q.call (KC r (.cells #[.slice a0 n0 l, .slice a1 o m, .slice none 0 0] 76));have aa:=A0 R;have ab:Hid (w+3<=r.heap.size):=q.size;obtain⟨a8,a2,a3⟩:=Hx3 Q h0 h1;clear c0 c1 c2 c3 c4 aj ak al an ao hk ah G q H h0 h1 R Q;go_wp2_with fail;refine BM (S:=λaf=>Aa af r.heap.size [.slice a0 n0 l, .slice a1 o m, .slice none 0 0] 76) (by kernel_rfl) 11 rfl a8.drew (λi=>?_);have I:=aa.call ((A2 _ _).drew);generalize World.drew _=A at*;refine Ab 0 i ?_;refine Ab 1 i ?_;refine Ab 2 i ?_;refine Ab 3 i ?_ (hy:=by intro w' s;obtain⟨av,m1,m2,_⟩:=s.three;clear s;go_simp;with_reducible rfl);refine Ab 5 i ?_;refine Ab 6 i ?_ (hy:=by intro w' s;obtain⟨av,m1,m2,_⟩:=s.three;clear s;go_simp;with_reducible rfl);refine Px ?_;refine Ao 4 (λp h3=>?_);go_simp;refine(La (a0,n0,l) _ a2 A (E.trans (I.bl.mono E.size))).mono ?_;rintro e ag ⟨⟨b0,f,a⟩,rfl,i0,D⟩;refine h3 _ _ (i.below D) (λY=>?_);clear h3 p;have J:=I.call D;refine Ao 7 (λp h3=>?_);go_simp;refine(La (a1,o,m) _ a3 ag (E.trans (J.bl.mono E.size))).mono ?_;rintro e V ⟨⟨b1,g,d⟩,rfl,i1,u⟩;refine h3 _ _ (Y.below u) (λC=>?_);clear h3 p;have j:=J.call u;have aT:=D.size;have aU:=u.size;have aM:=i.lt;have aP:w.heap.size+3<=r.heap.size:=ab.out;refine Ab 8 C ?_;refine Ab 9 C ?_;refine Px ?_;refine Ao 10 (λp h3=>?_);obtain⟨B,d1,d2,W,g1,g2⟩:=j.bs.2.2.1.three;go_simp;refine h3 _ _ (C.other (c:=w.heap.size+1+1) (by omega) 0 _|>.other (c:=w.heap.size+1+1) (by omega) 1 _|>.other (c:=w.heap.size+1+1) (by omega) 2 _) (λX=>?_);clear h3 p;refine Bc (by kernel_rfl) ?_ _;refine Px ?_;have aK:=X.cell 2 rfl;have T:=((j.bs.2.2.1.set 0 (.slice b0 f a)).set 1 (.slice b1 g d)).set 2 (.slice none 0 0);have L:=((j.bs.1.other (c:=w.heap.size+1+1) (by omega) 0 (.slice b0 f a)).other (c:=w.heap.size+1+1) (by omega) 1 (.slice b1 g d)).other (c:=w.heap.size+1+1) (by omega) 2 (.slice none 0 0);have z:=((j.bs.2.1.other (c:=w.heap.size+1+1) (by omega) 0 (.slice b0 f a)).other (c:=w.heap.size+1+1) (by omega) 1 (.slice b1 g d)).other (c:=w.heap.size+1+1) (by omega) 2 (.slice none 0 0);have O:Ac V (((V.setCell ⟨w+1+1,0,none⟩ (.slice b0 f a)).setCell ⟨w+1+1,1,none⟩ (.slice b1 g d)).setCell ⟨w+1+1,2,none⟩ (.slice none 0 0)) (λk=>w<=k/\k<A.heap.size):=
  ((Db _ _ _ _ ⟨by omega,by omega⟩).trans (Db _ _ _ _ ⟨by omega,by omega⟩)).trans (Db _ _ _ _ ⟨by omega,by omega⟩)
 generalize World.setCell _ _ _=ad at*;obtain⟨b5,t1,t2,_⟩:=T.three;obtain⟨b6,b7,b8,b9,bb⟩:=L.five;obtain⟨bw,bx,bK,bL,bM⟩:=L.five';obtain⟨aV,aX,b2,b3,b4⟩:=z.five;obtain⟨bc,bp,bq,bt,bu⟩:=z.five';obtain⟨a9,a6,a7,a5,a4,P⟩:=Hx6 z i0 i1 O u j.bl;clear B d1 d2 W g1 g2 X C Y i T L z i0 i1 O u D j J I;go_wp2_with fail;refine aq _ _ ?_;go_wp2_with fail;refine ap _ _ ?_;go_wp2_with fail;have ac:=(((((((a9.other (c:=w.heap.size) (by omega) 2 (.slice b0 f a)).other (c:=w.heap.size) (by omega) 3 (.slice b1 g d)).other (c:=w.heap.size) (by omega) 4 (.slice none 0 0)).set 0 (.int .i64 id)).set 1 (.int .i64 size)).set 2 (.slice b0 f a)).set 3 (.slice b1 g d)).set 4 (.slice none 0 0);obtain⟨B,d1,d2,ai,d4⟩:=ac.five;have M:w<=w.heap.size/\w<A.heap.size:=by omega
 have x:w<=w.heap.size+1/\w.heap.size+1<A.heap.size:=by omega
 have y:=a5.trans ((((((((Db ad _ 2 (.slice b0 f a) M).trans (Db _ _ 3 (.slice b1 g d) M)).trans (Db _ _ 4 (.slice none 0 0) M)).trans (Db _ _ 0 (.int .i64 id) x)).trans (Db _ _ 1 (.int .i64 size) x)).trans (Db _ _ 2 (.slice b0 f a) x)).trans (Db _ _ 3 (.slice b1 g d) x)).trans (Db _ _ 4 (.slice none 0 0) x));have N:=(GU a4 _).trans y;refine A5 (v:= .agg #[id, size, .slice b0 f a, .slice b1 g d, .slice none 0 0]) (by simp[results,results189,go_sem,B,d1,d2,ai,d4]) rfl ⟨((b0,f,a),(b1,g,d),z3),rfl,?_,P.trans (y.below P.size λk hk=>hk.1)⟩;exact RC (K8 (Dm a6 N λb hb h=>by omega) λb _ hb=>OS hb.2 N (by omega)) (K8 (Dm a7 y λb hb h=>by omega) λb _ hb=>OS hb.2 y (by omega)) au
abbrev FU(id size:Int)(s:NS):Value:= .agg #[id, size,sv s.1,sv s.2.1,sv s.2.2]
theorem ki{vs:List Vl}{id:Int}{k:Nat}(hk:k<vs.length)(h:∀j (a:j<vs.length),j<k->vs[j].1≠id)(e:vs[k].1=id):CF vs id=some vs[k]:=by
 unfold CF;rw[WE];exact⟨by simpa using e,k,hk,rfl,λj a=>by simpa using h j (by omega) a⟩
def kj(w':World)(e:Ending):Option Vl->Prop
 |none=>e= .returned (.tuple #[FU 0 0 ((none,0,0),(none,0,0),(none,0,0)), .bool false])
 |some x=>∃s:NS,e= .returned (.tuple #[FU x.1 x.2.1 s, .bool true])/\Bp w' (s) x.2.2
theorem kn(v:Value)(vs:List Vl)(id:Int)(w:World)(A:CU w v vs)(V:D5 vs):
 Calls prog 95 #[v, id] w λe w'=>kj w' e (CF vs id)/\Below w w w':=by
 have a1:=A0 A;have hl:=V.len;obtain⟨a0,c0,rfl⟩:=Fy A;have O:Hid (Aa (w.alloc (.cells #[.int .i64 0, .int .i64 0, .slice none 0 0, .slice none 0 0, .slice none 0 0] 78)) w.heap.size OU 78):=Aa.new w OU 78;have P:Hid (Below w w (w.alloc (.cells #[.int .i64 0, .int .i64 0, .slice none 0 0, .slice none 0 0, .slice none 0 0] 78))):=(A2 _ _).alloc (A1 _) _;clear A V;go_enter func95,ntmps95;go_wp2_with fail;go_loopw [10] (λi wr=>∃k:Nat,i= .int .i64 (k:Int)/\k<=vs.length/\Hid (Aa wr w.heap.size OU 78)/\Hid (Below w w wr)/\Hid (∀j (c:j<vs.length),j<k->vs[j].1≠id)) (λi _=>vs.length-(intOf i).toNat)
 case atStart=>exact⟨0,rfl,A7 _,O,P,λj _ h=>by omega⟩
 case round=>
  obtain⟨k,rfl,hk,d,f,o⟩:=hrel;clear O P;by_cases R:k<vs.length
  ·obtain⟨b,off,⟨⟨ah,ad,aa⟩,⟨ai,af,ab⟩,⟨aj,ag,ac⟩⟩,rfl,hb,a3,a4,a5,a6,a7,S⟩:=GX (EJ a1 f) R;have Q:=λe=>ki (id:=id) R o e;have Hfind:=A0 Q;have W:=λak B=>RD S vs[k].1 vs[k].2.1 ak B;have a2:=A0 W;have Z:Hid (vs[k].1≠id->∀j (c:j<vs.length),j<k+1->vs[j].1≠id):=λa9 j c an=>by
    rcases BZ j k with h|h
    ·exact o j c h
    ·obtain rfl:j=k:=by omega
     exact a9
   generalize vs[k]=y at*;obtain⟨a,n,ap⟩:=y;dsimp only[sv] at a3 a4 a5 a6 a7;have al:(k:Int)<(vs.length:Int):=by omega
   have g1:(0:Int)<=(k:Int):=by omega
   have ao:=d.lt;have m:Below wr wr (wr.alloc (.cells #[a, n, .slice ah ad aa, .slice ai af ab, .slice aj ag ac] 78)):=(A2 _ _).alloc (A1 _) _;obtain⟨M,p⟩:=Hx2 (d.below m) (f.trans (m.mono f.size));have u:=a2 _ m;clear W Q S m;by_cases z:a=id
   ·subst z;have a8:((a:Int)==a)=true:=by simp
    dsimp only[FU,sv] at u;go_wp2_with fail;refine u.mono ?_;rintro e F ⟨⟨⟨G,J,C⟩,⟨H,K,D⟩,⟨I,L,E⟩⟩,rfl,T,t⟩;have g:=M.below t;obtain⟨c0,c1,c2,c3,c4⟩:=g.five;obtain⟨f0,f1,f2,f3,f4⟩:=g.five';have q:=A0 (((((g.set 0 (.int .i64 a)).set 1 (.int .i64 n)).set 2 (.slice G J C)).set 3 (.slice H K D)).set 4 (.slice I L E));have l:Hid (Ac F (((((F.setCell ⟨w,0,none⟩ (.int .i64 a)).setCell ⟨w,1,none⟩ (.int .i64 n)).setCell ⟨w,2,none⟩ (.slice G J C)).setCell ⟨w,3,none⟩ (.slice H K D)).setCell ⟨w,4,none⟩ (.slice I L E)) (λb=>b=w.heap.size)):=
     ((((Ad F w.heap.size 0 _).trans (Ad _ _ 1 _)).trans (Ad _ _ 2 _)).trans (Ad _ _ 3 _)).trans (Ad _ _ 4 _)
    obtain⟨Y,X,N⟩:=Hx3 T g (p.trans (t.mono p.size));clear u T g t;go_wp2_with fail;obtain⟨r,d1,d2,s,d4⟩:=q.five;refine A5 (v:= .tuple #[FU a n ((G,J,C),(H,K,D),(I,L,E)), .bool true]) (by simp[results,results95,go_sem,r,d1,d2,s,d4]) rfl ⟨?_,?_⟩
    ·rw[Hfind.out (by first|rfl|trivial)];exact⟨_,rfl,Pp (Mv Y l λb hb=>by subst hb;exact kg X)⟩
    ·exact N.trans (l.below N.size λb hb=>by omega)
   ·have a8:((a:Int)==id)=false:=by simpa using z
    go_wp2_with fail;exact⟨⟨k+1,rfl,by omega,M,p,Z z⟩,by simp[intOf];omega⟩
  ·obtain rfl:k=vs.length:=by omega
   have hd:decide ((vs.length:Int)<(vs.length:Int))=false:=A6 (by omega);obtain⟨c0,c1,c2,c3,c4⟩:=d.five;obtain⟨f0,f1,f2,f3,f4⟩:=d.five';have q:=A0 (((((d.set 0 (.int .i64 0)).set 1 (.int .i64 0)).set 2 (.slice none 0 0)).set 3 (.slice none 0 0)).set 4 (.slice none 0 0));have l:Hid (Ac wr (((((wr.setCell ⟨w,0,none⟩ (.int .i64 0)).setCell ⟨w,1,none⟩ (.int .i64 0)).setCell ⟨w,2,none⟩ (.slice none 0 0)).setCell ⟨w,3,none⟩ (.slice none 0 0)).setCell ⟨w,4,none⟩ (.slice none 0 0)) (λb=>b=w.heap.size)):=
    ((((Ad wr w.heap.size 0 _).trans (Ad _ _ 1 _)).trans (Ad _ _ 2 _)).trans (Ad _ _ 3 _)).trans (Ad _ _ 4 _)
   have U:CF vs id=none:=Wr λx B=>by
    obtain⟨j,c,rfl⟩:=HQ B;exact o j c c
   have HNone:=A0 U;clear U;go_wp2_with fail;obtain⟨r,d1,d2,s,d4⟩:=q.five;refine A5 (v:= .tuple #[FU 0 0 ((none,0,0),(none,0,0),(none,0,0)), .bool false]) (by simp[results,results95,go_sem,r,d1,d2,s,d4]) rfl ⟨?_,?_⟩
   ·rw[HNone.out];rfl
   ·exact f.trans (l.below f.size λb hb=>by omega)
def Fr(n₀:Nat)(b:World)(v:Value)(L:List Vl):Prop:=
 ∃a:List V5,a.length=L.length/\b.ownsRow n₀ 78 5 v L.length (Af DZ a)/\∀i (c:i<a.length) (d:i<L.length),a[i].1=L[i].1/\a[i].2.1=L[i].2.1/\IB b (a[i].2.2) L[i].2.2
theorem Jn{n₀:Nat}{a d:World}{v:Value}{L:List Vl}(h:Fr n₀ a v L)(hb:Below a a d):Fr n₀ d v L:=by
 obtain⟨e,h1,h2,h3⟩:=h;exact⟨e,h1,Ag h2 hb,λi b c=>⟨(h3 i b c).1,(h3 i b c).2.1,kf (h3 i b c).2.2 hb⟩⟩
theorem Kn{n₀:Nat}{c:World}{v:Value}{L:List Vl}(h:Fr n₀ c v L):CU c v L:=by
 obtain⟨d,h1,h2,h3⟩:=h;exact⟨d,(CJ Gw h2).1,h1,λi a b=>⟨(h3 i a b).1,(h3 i a b).2.1,Pp (h3 i a b).2.2⟩⟩
theorem WY(n₀:Nat)(a:World):Fr n₀ a (.slice none 0 0) []:=⟨[],rfl,C2 _ _ _ _,λi b=>by simp at b⟩
theorem Mw{n₀:Nat}{b:World}{v:Value}{L:List Vl}(h:Fr n₀ b v L):∃a c,v= .slice a L.length c:=by
 obtain⟨d,h1,h2,h3⟩:=h;obtain⟨a,c,h,_⟩:=Aw h2;exact⟨a,c,h⟩
theorem OV{n₀:Nat}{a:World}{v:Value}{L:List Vl}(h:Fr n₀ a v L){b:Nat}(hb:v.ownBlock=some b):n₀<=b/\¬BP a b:=by
 obtain⟨f,h1,h2,h3⟩:=h;refine⟨Ah h2 b hb,?_⟩;rintro⟨c,T,hc,d⟩;rcases h2.2 with⟨h0,_⟩|⟨g,cap,cur,h0,_,e,_⟩
 ·rw[h0] at hb;cases hb
 ·rw[h0] at hb;simp only[Value.ownBlock,Hs] at hb;subst hb;rw[e] at hc;injection hc with hc;injection hc with _ hc;rw[<-hc] at d;exact absurd d (by decide)
theorem OW{n₀:Nat}{a f:World}{R:Nat->Prop}{v:Value}{L:List Vl}(h:Fr n₀ a v L)(j:Ac a f R)(hr:∀b,R b->b<n₀/\¬BP a b):Fr n₀ f v L:=by
 obtain⟨k,h1,h2,h3⟩:=h;exact⟨k,h1,j.owns h2 λg hb c=>by have:=Ah h2 g hb;have:=(hr g c).1;omega,λi d e=>⟨(h3 i d e).1,(h3 i d e).2.1,Mv (h3 i d e).2.2 j λb c=>(hr b c).2⟩⟩
theorem RE{n₀:Nat}{c d:World}{v g:Value}{L:List Vl}{a:List V5}(j:Fr n₀ c v L)(h1:a.length=L.length)(h3:∀i (f:i<a.length) (l:i<L.length),a[i].1=L[i].1/\a[i].2.1=L[i].2.1/\IB c (a[i].2.2) L[i].2.2)
 {id size:Int}{s:NS}{t:Tr}(hs:IB c (s) t)(e:Ac c d (λk=>some k=v.ownBlock))(m:d.ownsRow n₀ 78 5 g (L.length+1) (Af DZ a++DZ (id,size,s))):Fr n₀ d g (L++[(id,size,t)]):=by
 have hr:∀b,some b=v.ownBlock->¬BP c b:=λb hb=>(OV j hb.symm).2;refine⟨a++[(id,size,s)],by simp[h1],?_,λi f l=>?_⟩
 ·rw[A9,N8,JA];simpa using m
 ·by_cases h:i<a.length
  ·rw[K2 h,K2 (by omega)];obtain⟨n,o,p⟩:=h3 i h (by omega);exact⟨n,o,Mv p e hr⟩
  ·obtain rfl:i=a.length:=by simp at f;omega
   rw[K3 (A1 _),K3 (by omega)];simp only[Hr,h1,H5];exact⟨trivial,trivial,Mv hs e hr⟩
theorem ko{vs:List Vl}{v:Vl}{k:Nat}(f:∀j (b:j<vs.length),j<k->vs[j].1<v.1)(d:∀j (b:j<vs.length),k<=j->¬vs[j].1<v.1):Gg vs v=vs.take k++[v]:=by
 have e:(vs.take k).filter (λx=>decide (x.1<v.1))=vs.take k:=List.filter_eq_self.2 λa ha=>by
  obtain⟨j,b,rfl⟩:=HQ ha;rw[B5] at b;rw[H9];simpa using f j (by omega) (by omega)
 have c:(vs.drop k).filter (λx=>decide (x.1<v.1))=[]:=List.filter_eq_nil_iff.2 λa ha=>by
  obtain⟨j,b,rfl⟩:=HQ ha;rw[G1] at b;rw[K4];simpa using d (k+j) (by omega) (by omega)
 unfold Gg;rw[<-IR k vs,H4,IR,e,c,E5]
end Go.Proofs.YtmajkjjjfodhlaaGreatDoor
