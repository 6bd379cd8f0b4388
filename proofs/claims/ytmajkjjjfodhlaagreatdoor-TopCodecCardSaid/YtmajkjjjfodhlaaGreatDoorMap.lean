/- Part Map. No condition of its own. -/
import Derived.Test.YtmajkjjjfodhlaaGreatDoorMam
namespace Go.Proofs.YtmajkjjjfodhlaaGreatDoor
open Go.RowKit Tryz Go.Shelf
set_option linter.all false
set_option maxRecDepth 100000
set_option maxHeartbeats 8000000
theorem Ws(w:World)(u v:Value)(T:TypeId):∀j y,([u,v]:List Value)[j]?=some y->(w.alloc (.cells #[u,v] T)).cell? ((⟨w,0,none⟩:Addr).add j)=some y:=by
 intro j y b;have a:=Aa.new w [u,v] T;rw[Bo,B2];exact a.cell j b
theorem Gh{w:World}{base e k n b:Nat}{v:Value}{cs vs:List Value}{T:TypeId}(h:w.ownsRow base e k v n cs)(a:Aa w b vs T)(c:T≠e):some b≠v.ownBlock:=by
 intro hb;rcases h.2 with⟨rfl,_⟩|⟨g,cap,cur,rfl,d,hc,_⟩
 ·simp[Value.ownBlock] at hb
 ·simp[Value.ownBlock] at hb;subst hb;unfold Aa at a;rw[a] at hc;injection hc with hc;injection hc with _ h2;exact c h2
theorem Jk{w:World}{base e k n b:Nat}{v:Value}{cs:List Value}(h:w.ownsRow base e k v n cs)(hb:some b≠v.ownBlock)(i:Nat)(u:Value):(w.setCell ⟨b,i,none⟩ u).ownsRow base e k v n cs:=by
 obtain⟨hl,h⟩:=h;refine⟨hl,?_⟩;rcases h with h0|⟨g,cap,cur,rfl,a,hc,c,hm,hs,d⟩
 ·exact Or.inl h0
 ·exact Or.inr ⟨g,cap,cur,rfl,a,(HG _ _ _ _ (by intro(e:g=b);exact hb (by simp[Value.ownBlock,e]))).trans hc,c,hm,hs,d⟩
theorem Mq{w w':World}{base e k n:Nat}{v:Value}{cs:List Value}{row:Option Nat}(h:w.ownsRow base e k v n cs)(a:w.grownBy w' row)(f:∀g,v.ownBlock=some g->some g≠row):w'.ownsRow base e k v n cs:=by
 have c:=AM h;obtain⟨hl,h⟩:=h;refine⟨hl,?_⟩;rcases h with h0|⟨g,cap,cur,rfl,b,hc,d,hm,hs,i⟩
 ·exact Or.inl h0
 ·exact Or.inr ⟨g,cap,cur,rfl,b,(a.block g (c g rfl) (f g rfl)).trans hc,d,hm,hs,i⟩
theorem Cn{w:World}{base base' e d k m n o:Nat}{v f:Value}{cs i:List Value}(h:w.ownsRow base e k v n cs)(j:w.ownsRow base' d m f o i)(l:e≠d):∀g,v.ownBlock=some g->some g≠f.ownBlock:=by
 intro g b c;rcases h.2 with⟨rfl,_⟩|⟨g1,cap,cur,rfl,_,hc,_⟩
 ·simp[Value.ownBlock] at b
 ·rcases j.2 with⟨rfl,_⟩|⟨g2,p,q,rfl,_,a,_⟩
  ·simp[Value.ownBlock] at c
  ·simp[Value.ownBlock] at b c;subst b;subst c;rw[hc] at a;injection a with a;injection a with _ h2;exact l h2
def CY(d:Dk)(x:Int)(s:ByteArray):Dk:={d with cache:=d.cache++[(x,s)]}
theorem Wt(ar aq k:Value)(d:Dk)(x:Int)(s:ByteArray)(w:World)(h:By w ar aq k d)(S:Bd d)(af:d.keep.length<=10000000)(hf:d.fuse= -1)(hd:d.dead=false)(h0:0<=x)(h1:x<d.kept.length)(hs:s.size=32)(hc:d.cache.length<20000):
 Calls prog 162 #[Bm ar aq k d, .int .i64 x, .string s] w λe w'=>∃a f l o c g,e= .returned (.tuple #[Bm (.slice a d.kept.length f) (.slice l (CY d x s).cache.length o) (.slice c d.keep.length g) (CY d x s), .int .i64 0])/\Ez w' (w+2) (.slice a d.kept.length f) (.slice l (CY d x s).cache.length o) (.slice c d.keep.length g) (CY d x s)/\Below w w w':=by
 obtain⟨kept,cache,fuse,keep,dead⟩:=d;dsimp only at hf hd;subst hf hd;have b2:=S.most;dsimp only at af b2 h1 hc;obtain⟨Z,Y⟩:=Hx2 h S;obtain⟨n,r,rfl⟩:=AK h.kept;obtain⟨m,q,rfl⟩:=AK h.cache;obtain⟨i0,b1,b9,bb,bc⟩:=BW Vf;have V:=A0 (Aa.new w [.slice n kept.length r, .slice m cache.length q, .int .i64 (-1),k, .bool false] 27);have I:=A0 (V.below ((A2 _ _).alloc (A1 _) (.cells #[.slice none 0 0, .slice none 0 0, .int .i64 0, .slice none 0 0, .bool false] 27)));have a5:Hid (Aa ((w.alloc (.cells #[.slice n kept.length r, .slice m cache.length q, .int .i64 (-1),k, .bool false] 27)).alloc (.cells #[.slice none 0 0, .slice none 0 0, .int .i64 0, .slice none 0 0, .bool false] 27)) (w+1) [.slice none 0 0, .slice none 0 0, .int .i64 0, .slice none 0 0, .bool false] 27):=by
  have h:=Aa.new (w.alloc (.cells #[.slice n kept.length r, .slice m cache.length q, .int .i64 (-1),k, .bool false] 27)) [.slice none 0 0, .slice none 0 0, .int .i64 0, .slice none 0 0, .bool false] 27;rw[show(w.alloc (.cells #[.slice n kept.length r, .slice m cache.length q, .int .i64 (-1),k, .bool false] 27)).heap.size=w.heap.size+1 by simp] at h;exact h
 have F:=A0 (((A2 w.heap.size w).alloc (A1 _) (.cells #[.slice n kept.length r, .slice m cache.length q, .int .i64 (-1),k, .bool false] 27)).alloc (by simp) (.cells #[.slice none 0 0, .slice none 0 0, .int .i64 0, .slice none 0 0, .bool false] 27));have c7:((s.size:Int)!=32)=false:=by rw[hs];rfl
 have bT:((cache.length:Int)==20000)=false:=by simp;omega
 have bV:(cache.length==20000)=false:=by simp;omega
 clear V h S hs;go_enter func162,ntmps162;obtain⟨c0,c1,c2,c3,c4⟩:=I.five;have ah:w.heap.size+2<=((w.alloc (.cells #[.slice n kept.length r, .slice m cache.length q, .int .i64 (-1),k, .bool false] 27)).alloc (.cells #[.slice none 0 0, .slice none 0 0, .int .i64 0, .slice none 0 0, .bool false] 27)).heap.size:=by simp
 generalize ad:(w.alloc (.cells #[.slice n kept.length r, .slice m cache.length q, .int .i64 (-1),k, .bool false] 27)).alloc (.cells #[.slice none 0 0, .slice none 0 0, .int .i64 0, .slice none 0 0, .bool false] 27)=aV at*;have aa:=A0 ad;have ag:=KS _ _ _ _ aV (Z.below F) Y;clear ad;go_wp2_with fail;rw[aa.out];refine ag.mono ?_;rintro e au ⟨rfl,A⟩;obtain⟨J,a6,G⟩:=Hx3 (I.below A) (a5.below A) (F.trans (A.mono F.size));have b3:w.heap.size+2<=au.heap.size:=A8 ah A.size;clear c0 c1 c2 c3 c4 ag A I a5 F aa ah;obtain⟨c0,c1,c2,c3,c4⟩:=J.five;have O:=QM _ _ _ _ au (Z.below G) Y af;dsimp only at O;go_wp2_with fail;refine O.mono ?_;rintro e j ⟨a,f,l,o,c,g,rfl,b8,B⟩;obtain⟨U,a7,M⟩:=Hx3 (J.below B) (a6.below B) (G.trans (B.mono G.size));have b4:w.heap.size+2<=j.heap.size:=A8 b3 B.size;obtain⟨P,Q,R⟩:=b8;dsimp only at P Q R;have u:Below j j (j.alloc (.cells #[.slice a kept.length f, .slice l cache.length o, .int .i64 (-1), .slice c keep.length g, .bool false] 27)):=(A2 _ _).alloc (A1 _) _;obtain⟨W,K,a8,N,a0,a2,a3⟩:=Hx7 (Aa.new j [.slice a kept.length f, .slice l cache.length o, .int .i64 (-1), .slice c keep.length g, .bool false] 27) (U.below u) (a7.below u) (M.trans (u.mono M.size)) (CI (Ag P u) (by omega:w.heap.size+2<=_)) (CI (Ag Q u) (by omega:w.heap.size+2<=_)) (CI (Ag R u) (by omega:w.heap.size+2<=_));have ai:j<(j.alloc (.cells #[.slice a kept.length f, .slice l cache.length o, .int .i64 (-1), .slice c keep.length g, .bool false] 27)).heap.size:=by simp
 obtain⟨ak,al,an,ao,ap⟩:=K.five;have aj:=QI n kept.length r (.slice m cache.length q) k (-1) false x (j.alloc (.cells #[.slice a kept.length f, .slice l cache.length o, .int .i64 (-1), .slice c keep.length g, .bool false] 27)) h0 h1;clear c0 c1 c2 c3 c4 O B P Q R u J a6 G U a7 M;go_wp2_with fail;refine aj.mono ?_;rintro e D ⟨rfl,t⟩;obtain⟨E,av,aM,ab,aF,aK,aL⟩:=Hx7 (W.below' t ai) (K.below t) (a8.below t) (N.trans (t.mono N.size)) (Ag a0 t) (Ag a2 t) (Ag a3 t);have bP:j<D.heap.size:=E.lt;have bR:w.heap.size+2<=j.heap.size:=b4;generalize j.heap.size=H at*;clear ak al an ao ap aj t W K a8 N a0 a2 a3 ai;obtain⟨ak,al,an,ao,ap⟩:=av.five;obtain⟨c0,c1,c2,c3,c4⟩:=E.five;obtain⟨f0,f1,f2,f3,f4⟩:=E.five';have c6:decide ((0:Int)< -1)=false:=by decide
 have y:Below D D (D.alloc (.cells #[.int .i64 x, .string s] 131)):=(A2 _ _).alloc (A1 _) _;obtain⟨X,a9,HR14',HR24',HR34',ac⟩:=Hx6 (E.below y) (aM.below y) (Ag aF y) (Ag aK y) (Ag aL y) (ab.trans (y.mono ab.size));clear y;go_wp2_with (first
  |(at_builtin;refine F0 _ rfl _ _ 24 rfl (w+2) 131 i0 (.agg #[.int .i64 0, .string ⟨#[]⟩]) 2 24 underlying24 b1 b9 bb bc rfl (by decide) (.slice l cache.length o) _ _ rfl HR24' ⟨D,0,none⟩ 1 1 [.int .i64 x, .string s] rfl rfl (Ws _ _ _ _) (by simp[Value.oneCell']) (by simp[maxLen];omega) (by omega) (by simp;omega) ?_;intro cl cm T C _ bX
    obtain⟨i,c5,rfl,_,_⟩:=Aw T;have z:=A0 (X.grown C (Gh HR24' X (by decide)));obtain⟨bu,d1,d2,bw,d4⟩:=z.five;obtain⟨bx,bK,bL,bM,bN⟩:=z.five';obtain⟨L,aP⟩:=Hx2 (a9.grown C (Gh HR24' a9 (by decide))) (ac.grown C ac.size (λb aX=>by have:=Ah HR24' b aX;omega));have bO:w.heap.size+1≠H:=by omega
    obtain⟨c8,c9,ca,cb,cc⟩:=L.five;obtain⟨cg,ch,ci,cj,ck⟩:=L.five';clear c0 c1 c2 c3 c4 f0 f1 f2 f3 f4)
  |fail)
 have b5:=Gh T z (by decide);obtain⟨a1,a4⟩:=Hx2 (Mq HR14' C (Cn HR14' HR24' (by decide))) (Mq HR34' C (Cn HR34' HR24' (by decide)));have b6:=Gh a1 z (by decide);have b7:=Gh a4 z (by decide);obtain⟨aU,ay,ax,aC,aT⟩:=Hx5 ((((((L.other (by omega:H≠w.heap.size+1) 1 (.slice i (cache.length+1) c5)).set 0 (.slice a kept.length f)).set 1 (.slice i (cache.length+1) c5)).set 2 (.int .i64 (-1))).set 3 (.slice c keep.length g)).set 4 (.bool false)) (Ak (Ak (Ak (Ak (Ak (Jk a1 (by exact b6) 1 (.slice i (cache.length+1) c5)) (by omega:w.heap.size+1<w.heap.size+2) 0 (.slice a kept.length f)) (by omega:w.heap.size+1<w.heap.size+2) 1 (.slice i (cache.length+1) c5)) (by omega:w.heap.size+1<w.heap.size+2) 2 (.int .i64 (-1))) (by omega:w.heap.size+1<w.heap.size+2) 3 (.slice c keep.length g)) (by omega:w.heap.size+1<w.heap.size+2) 4 (.bool false)) (Ak (Ak (Ak (Ak (Ak (Jk T (by exact b5) 1 (.slice i (cache.length+1) c5)) (by omega:w.heap.size+1<w.heap.size+2) 0 (.slice a kept.length f)) (by omega:w.heap.size+1<w.heap.size+2) 1 (.slice i (cache.length+1) c5)) (by omega:w.heap.size+1<w.heap.size+2) 2 (.int .i64 (-1))) (by omega:w.heap.size+1<w.heap.size+2) 3 (.slice c keep.length g)) (by omega:w.heap.size+1<w.heap.size+2) 4 (.bool false)) (Ak (Ak (Ak (Ak (Ak (Jk a4 (by exact b7) 1 (.slice i (cache.length+1) c5)) (by omega:w.heap.size+1<w.heap.size+2) 0 (.slice a kept.length f)) (by omega:w.heap.size+1<w.heap.size+2) 1 (.slice i (cache.length+1) c5)) (by omega:w.heap.size+1<w.heap.size+2) 2 (.int .i64 (-1))) (by omega:w.heap.size+1<w.heap.size+2) 3 (.slice c keep.length g)) (by omega:w.heap.size+1<w.heap.size+2) 4 (.bool false)) ((((((aP.setCell (p:=⟨H,1,none⟩) (by show w<=H;omega) (.slice i (cache.length+1) c5)).setCell (p:=⟨w+1,0,none⟩) (by simp) (.slice a kept.length f)).setCell (p:=⟨w+1,1,none⟩) (by simp) (.slice i (cache.length+1) c5)).setCell (p:=⟨w+1,2,none⟩) (by simp) (.int .i64 (-1))).setCell (p:=⟨w+1,3,none⟩) (by simp) (.slice c keep.length g)).setCell (p:=⟨w+1,4,none⟩) (by simp) (.bool false));obtain⟨bl,bp,bq,bs,bt⟩:=aU.five;have hl:(cache++[(x,s)]).length=cache.length+1:=by simp
 have b0:Af Ge (cache++[(x,s)])=Af Ge cache++[.int .i64 x, .string s]:=by simp[Af]
 refine A5 (v:= .tuple #[Bm (.slice a kept.length f) (.slice i (cache.length+1) c5) (.slice c keep.length g) ⟨kept,cache,-1,keep,false⟩, .int .i64 0]) (by simp[results,results162,go_sem,bl,bp,bq,bs,bt]) rfl ⟨a,f,i,c5,c,g,?_,⟨ay,?_,aC⟩,aT⟩
 ·simp[CY]
 ·unfold CY;dsimp only;rw[hl,b0];exact ax
theorem iP{w:World}{g i:Nat}{cur:Array Value}{e:TypeId}{a:Nat×Nat}(h:w.heap[g]?=some (.cells cur e a))(v:Value):(w.setCell ⟨g,i,none⟩ v).heap[g]?=some (.cells (cur.setIfInBounds i v) e a):=by
 obtain⟨b,hk⟩:=HO.1 h;show(w.heap.modify g _)[g]?=_;rw[V1 (by rw[Array.size_modify];exact b),Array.getElem_modify_self,hk];rfl
theorem iQ{w:World}{base e size n cap g:Nat}{cs:List Value}(h:w.ownsRow base e size (.slice (some ⟨g,0,none⟩) n cap) n cs)(i:Nat)(v:Value):
 (w.setCell ⟨g,i,none⟩ v).ownsRow base e size (.slice (some ⟨g,0,none⟩) n cap) n (cs.set i v):=by
 obtain⟨hl,h⟩:=h;refine⟨by rw[Di];exact hl,?_⟩;rcases h with⟨h,_⟩|⟨c,b,cur,a,h1,h2,h3,h4,h5,h6⟩
 ·cases h
 ·injection a with q1 q2 q3;injection q1 with q1;injection q1 with q1;subst q1 q3;refine Or.inr ⟨g,cap,cur.setIfInBounds i v,rfl,h1,iP h2 v,h3,h4,by rw[Array.size_setIfInBounds];exact h5,?_⟩;rw[<-h6,Array.toList_setIfInBounds,List.take_set]
theorem iR(l:List ByteArray)(i:Nat)(s:ByteArray):(Af Dy l).set i (.string s)=Af Dy (l.set i s):=by
 unfold Af;induction l generalizing i with
 |nil=>rfl
 |cons x l a=>
  cases i with
  |zero=>rfl
  |succ i=>simp only[G8,G3,P5,<-a i]
theorem iS{w:World}{base c:Nat}{a:Option Addr}{l:List ByteArray}(h:w.ownsRow base 9 1 (.slice a l.length c) l.length (Af Dy l)){k:Nat}(hk:k<l.length):
 ∃g,a=some ⟨g,0,none⟩/\base<=g/\g<w.heap.size/\(∃u,w.cell? ⟨g,k,none⟩=some u)/\w.frozen? ⟨g,k,none⟩=false:=by
 have hl:=h.1;rcases h.2 with⟨_,h0⟩|⟨g,cap,cur,e,b,hc,f,hm,hs,i⟩
 ·omega
 ·injection e with h1 h2 h3;subst h1;have d:k<cur.size:=by rw[hs];omega
  refine⟨g,rfl,b,?_,?_,?_⟩
  ·rcases BZ g w.heap.size with h|h
   ·exact h
   ·rw[B8 h] at hc;cases hc
  ·exact⟨cur[k],by simp[World.cell?,hc,d]⟩
  ·simp[World.frozen?,hc]
def Eh(l:List ByteArray)(c:List (Int×ByteArray)):List ByteArray:=c.foldl (λl p=>l.set p.1.toNat p.2) l
theorem Mr(l:List ByteArray)(c:List (Int×ByteArray)):(Eh l c).length=l.length:=by
 unfold Eh;induction c generalizing l with
 |nil=>rfl
 |cons p c a=>rw[K0,a];simp
theorem iT(l:List ByteArray)(c:List (Int×ByteArray))(p:Int×ByteArray):Eh l (c++[p])=(Eh l c).set p.1.toNat p.2:=by unfold Eh;rw[NV];rfl
def Bu(d:Dk):Dk:={d with kept:=Eh d.kept d.cache,cache:=[]}
def iU(w:World)(kept:List ByteArray)(cache:List (Int×ByteArray))(keep:List Bool)(fuse:Int)(b a c:Option Addr)(e d f g:Nat)(h:Value)(wr:World):Prop:=
 ∃k:Nat,h= .int .i64 k/\k<=cache.length/\Hid (Aa wr g [.slice b kept.length e, .slice a cache.length d, fuse, .slice c keep.length f, .bool false] 27)/\
  Hid (Aa wr (w+1) [.slice none 0 0, .slice none 0 0, .int .i64 0, .slice none 0 0, .bool false] 27)/\
  Hid (wr.ownsRow (w+2) 9 1 (.slice b kept.length e) kept.length (Af Dy (Eh kept (cache.take k))))/\
  Hid (wr.ownsRow (w+2) 131 2 (.slice a cache.length d) cache.length (Af Ge cache))/\
  Hid (wr.ownsRow (w+2) 4 1 (.slice c keep.length f) keep.length (Af It keep))/\Below w w wr
theorem iV(n l o:Value)(d:Dk)(w:World)(h:By w n l o d)(I:Bd d)(ax:d.keep.length<=10000000)(hd:d.dead=false):
 Calls prog 161 #[Bm n l o d] w λe w'=>∃c a f i,e= .returned (.tuple #[Bm (.slice c d.kept.length a) (.slice none 0 0) (.slice f d.keep.length i) (Bu d), .int .i64 0])/\Ez w' (w+2) (.slice c d.kept.length a) (.slice none 0 0) (.slice f d.keep.length i) (Bu d)/\Below w w w':=by
 obtain⟨kept,cache,fuse,keep,dead⟩:=d;dsimp only at hd;subst hd;have bl:=I.most;have bb:=I.cmost;dsimp only at ax bl bb;obtain⟨ab,aa,b2,a8⟩:=Hx4 h I I.puts (Aa.new w [n,l, fuse,o, .bool false] 27);have P:=A0 (a8.below ((A2 _ _).alloc (A1 _) (.cells #[.slice none 0 0, .slice none 0 0, .int .i64 0, .slice none 0 0, .bool false] 27)));have t:Hid (Aa ((w.alloc (.cells #[n,l, fuse,o, .bool false] 27)).alloc (.cells #[.slice none 0 0, .slice none 0 0, .int .i64 0, .slice none 0 0, .bool false] 27)) (w+1) [.slice none 0 0, .slice none 0 0, .int .i64 0, .slice none 0 0, .bool false] 27):=by
  have h:=Aa.new (w.alloc (.cells #[n,l, fuse,o, .bool false] 27)) [.slice none 0 0, .slice none 0 0, .int .i64 0, .slice none 0 0, .bool false] 27;rw[show(w.alloc (.cells #[n,l, fuse,o, .bool false] 27)).heap.size=w.heap.size+1 by simp] at h;exact h
 have K:=A0 (((A2 w.heap.size w).alloc (A1 _) (.cells #[n,l, fuse,o, .bool false] 27)).alloc (by simp) (.cells #[.slice none 0 0, .slice none 0 0, .int .i64 0, .slice none 0 0, .bool false] 27));clear a8 h I;go_enter func161,ntmps161;obtain⟨c0,c1,c2,c3,c4⟩:=P.five;have aC:w.heap.size+2<=((w.alloc (.cells #[n,l, fuse,o, .bool false] 27)).alloc (.cells #[.slice none 0 0, .slice none 0 0, .int .i64 0, .slice none 0 0, .bool false] 27)).heap.size:=by simp
 generalize ar:(w.alloc (.cells #[n,l, fuse,o, .bool false] 27)).alloc (.cells #[.slice none 0 0, .slice none 0 0, .int .i64 0, .slice none 0 0, .bool false] 27)=b7 at*;have an:=A0 ar;have ay:=KS _ _ _ _ b7 (ab.below K) aa;clear ar;go_wp2_with fail;rw[an.out];refine ay.mono ?_;rintro e aV ⟨rfl,G⟩;obtain⟨Q,ah,L⟩:=Hx3 (P.below G) (t.below G) (K.trans (G.mono K.size));have bp:w.heap.size+2<=aV.heap.size:=A8 aC G.size;clear c0 c1 c2 c3 c4 ay G P t K an aC;obtain⟨c0,c1,c2,c3,c4⟩:=Q.five;have V:=QM _ _ _ _ aV (ab.below L) aa ax;dsimp only at V;go_wp2_with fail;refine V.mono ?_;rintro e q ⟨c,a,E,F,f,i,rfl,bs,H⟩;obtain⟨a6,ai,U⟩:=Hx3 (Q.below H) (ah.below H) (L.trans (H.mono L.size));have c5:w.heap.size+2<=q.heap.size:=A8 bp H.size;obtain⟨X,Y,Z⟩:=bs;dsimp only at X Y Z;have y:Below q q (q.alloc (.cells #[.slice c kept.length a, .slice E cache.length F, fuse, .slice f keep.length i, .bool false] 27)):=(A2 _ _).alloc (A1 _) _;obtain⟨R,a7,aj,ao,r,D,z⟩:=Hx7 (Aa.new q [.slice c kept.length a, .slice E cache.length F, fuse, .slice f keep.length i, .bool false] 27) (a6.below y) (ai.below y) (U.trans (y.mono U.size)) (CI (Ag X y) (by omega:w.heap.size+2<=_)) (CI (Ag Y y) (by omega:w.heap.size+2<=_)) (CI (Ag Z y) (by omega:w.heap.size+2<=_));have c6:q<(q.alloc (.cells #[.slice c kept.length a, .slice E cache.length F, fuse, .slice f keep.length i, .bool false] 27)).heap.size:=by simp
 obtain⟨aL,aM,aP,aT,aU⟩:=a7.five;obtain⟨a0,a1,a2,a3,a4⟩:=R.five;clear c0 c1 c2 c3 c4 V H X Y Z y Q ah L a6 ai U;go_wp2_with fail;generalize q.alloc (.cells #[.slice c kept.length a, .slice E cache.length F, fuse, .slice f keep.length i, .bool false] 27)=bL at*;generalize q.heap.size=A at*;clear aL aM aP aT aU a0 a1 a2 a3 a4;go_loopw [19] (λa5 wr=>iU w kept cache keep fuse c E f a F i A a5 wr) (λa5 _=>cache.length-(intOf a5).toNat)
 case atStart=>exact⟨0,rfl,A7 _,R,aj,r,D,z,ao⟩
 case round=>
  obtain⟨k,rfl,hk,u,t,r,D,z,hb⟩:=hrel;have M:=A0 hb;have bP:=hb.size;clear hb R a7 aj ao;have bO:=u.lt;obtain⟨a0,a1,a2,a3,a4⟩:=u.five;by_cases N:k<cache.length
  ·obtain⟨b,off,rfl,bR,b8,b9⟩:=QH (CJ KT D).1 N;obtain⟨h1,h2,h3⟩:=b2 cache[k] (BA N);have b4:Hid (Eh kept (cache.take (k+1))=(Eh kept (cache.take k)).set cache[k].1.toNat cache[k].2):=by
    unfold Hid;rw[B1 N,iT]
   generalize cache[k]=p at*;obtain⟨x,s⟩:=p;dsimp only at b8 b9 h1 h2 h3;obtain⟨m,rfl⟩:=G0 h1;have bM:(k:Int)<(cache.length:Int):=by omega
   have bc:m<kept.length:=by omega
   have B:=Mr kept (cache.take k);have ac:Hid (wr.ownsRow (w+2) 9 1 (.slice c (Eh kept (cache.take k)).length a) (Eh kept (cache.take k)).length (Af Dy (Eh kept (cache.take k)))):=by
    unfold Hid;rw[B];exact r
   obtain⟨g,rfl,bV,W,⟨cl,aK⟩,av⟩:=iS ac (k:=m) (by rw[B];exact bc);have j:Below wr wr (wr.alloc (.cells #[m, .string s] 131)):=(A2 _ _).alloc (A1 _) _;obtain⟨J,ak,b1,C,S,T,ap⟩:=Hx7 (u.below j) (t.below j) (Aa.new wr [m, .string s] 131) (Ag r j) (Ag D j) (Ag z j) (M.trans (j.mono M.size));have c7:=(j.cell (p:=⟨g,m,none⟩) W).trans aK;have bT:=(j.frozen (p:=⟨g,m,none⟩) W).trans av;obtain⟨c8,c9,_,_⟩:=b1.two;obtain⟨aL,aM,aP,aT,aU⟩:=J.five;have O:g≠A:=λe=>Gh C J (by decide) (by rw[e];rfl);have bq:g≠w.heap.size+1:=by omega
   obtain⟨a9,al⟩:=Hx2 (J.other O m (.string s)) (ak.other bq m (.string s));have ad:Hid (((wr.alloc (.cells #[m, .string s] 131)).setCell ⟨g,m,none⟩ (.string s)).ownsRow (w+2) 9 1 (.slice (some ⟨g,0,none⟩) kept.length a) kept.length (Af Dy (Eh kept (cache.take (k+1))))):=by
    unfold Hid;rw[b4.out,<-iR];exact iQ C m (.string s)
   obtain⟨af,ag,aq⟩:=Hx3 (Jk S (Cn C S (by decide) g rfl) m (.string s)) (Jk T (Cn C T (by decide) g rfl) m (.string s)) (ap.setCell (p:=⟨g,m,none⟩) (by show w<=g;omega) (.string s));have bX:(m:Int)<(kept.length:Int):=by omega
   have au:(wr.alloc (.cells #[m, .string s] 131)).setCell ⟨g,m,none⟩ (.string s)=(wr.setCell ⟨g,m,none⟩ (.string s)).alloc (.cells #[m, .string s] 131):=World.setCell_alloc_past _ _ _ _ W;rw[au] at a9 al ad af ag aq;clear au;clear j aK av h3 u t r D z ac M J ak C S T ap B a0 a1 a2 a3 a4;go_wp2_with fail;exact⟨⟨k+1,by go_num,by omega,a9,al,ad,af,ag,aq⟩,by simp[intOf];omega⟩
  ·obtain rfl:k=cache.length:=by omega
   rw[D4] at r;obtain⟨f0,f1,f2,f3,f4⟩:=u.five';obtain⟨ca,cb,cc,cg,ch⟩:=t.five;obtain⟨ci,t1,t2,cj,ck⟩:=t.five';have bN:w.heap.size+1≠A:=by omega
   have O:=Gh r u (by decide);have aF:=Gh z u (by decide);obtain⟨b6,aX,b3,b5⟩:=Hx4 ((((((t.other (by omega:A≠w.heap.size+1) 1 (.slice none 0 0)).set 0 (.slice c kept.length a)).set 1 (.slice none 0 0)).set 2 (.int .i64 fuse)).set 3 (.slice f keep.length i)).set 4 (.bool false)) (Ak (Ak (Ak (Ak (Ak (Jk r (by exact O) 1 (.slice none 0 0)) (by omega:w.heap.size+1<w.heap.size+2) 0 (.slice c kept.length a)) (by omega:w.heap.size+1<w.heap.size+2) 1 (.slice none 0 0)) (by omega:w.heap.size+1<w.heap.size+2) 2 (.int .i64 fuse)) (by omega:w.heap.size+1<w.heap.size+2) 3 (.slice f keep.length i)) (by omega:w.heap.size+1<w.heap.size+2) 4 (.bool false)) (Ak (Ak (Ak (Ak (Ak (Jk z (by exact aF) 1 (.slice none 0 0)) (by omega:w.heap.size+1<w.heap.size+2) 0 (.slice c kept.length a)) (by omega:w.heap.size+1<w.heap.size+2) 1 (.slice none 0 0)) (by omega:w.heap.size+1<w.heap.size+2) 2 (.int .i64 fuse)) (by omega:w.heap.size+1<w.heap.size+2) 3 (.slice f keep.length i)) (by omega:w.heap.size+1<w.heap.size+2) 4 (.bool false)) ((((((M.setCell (p:=⟨A,1,none⟩) (by show w<=A;omega) (.slice none 0 0)).setCell (p:=⟨w+1,0,none⟩) (by simp) (.slice c kept.length a)).setCell (p:=⟨w+1,1,none⟩) (by simp) (.slice none 0 0)).setCell (p:=⟨w+1,2,none⟩) (by simp) (.int .i64 fuse)).setCell (p:=⟨w+1,3,none⟩) (by simp) (.slice f keep.length i)).setCell (p:=⟨w+1,4,none⟩) (by simp) (.bool false));have B:=Mr kept cache;have b0:=A0 B;clear B O aF N hk;go_wp2_with fail;obtain⟨bt,bu,bw,bx,bK⟩:=b6.five;refine A5 (v:= .tuple #[Bm (.slice c kept.length a) (.slice none 0 0) (.slice f keep.length i) (Bu ⟨kept,cache,fuse,keep,false⟩), .int .i64 0]) (by simp[Bu,results,results161,go_sem,bt,bu,bw,bx,bK]) rfl ⟨c,a,f,i,rfl,⟨?_,C2 _ _ _ _,b3⟩,b5⟩;unfold Bu;dsimp only;rw[b0.out];exact aX
section
attribute [local go_sem] Oper.semAt_some
abbrev Ms:=Nat×(Int×ByteArray)
abbrev Rk(x:Ms):Array Value:=#[.int .i64 (x.1:Int), .agg #[x.2.1, .string x.2.2]]
def Dz(l:List (Int×ByteArray)):List Ms:=(List.range l.length).map λk=>(l.length-1-k,l.getD (l.length-1-k) (0,ByteArray.empty))
theorem OG(l:List (Int×ByteArray)):(Dz l).length=l.length:=by unfold Dz;simp
theorem iW(l:List (Int×ByteArray)){k:Nat}(hk:k<l.length):(Dz l).take (k+1)=(Dz l).take k++[(l.length-1-k,l[l.length-1-k]'(by omega))]:=by
 have a:k<(Dz l).length:=by rw[OG];exact hk
 rw[B1 a];have h:(Dz l)[k]=(l.length-1-k,l[l.length-1-k]'(by omega)):=by
  unfold Dz;simp;rw[Bl (by omega)];rfl
 rw[h]
theorem Wu(l:List (Int×ByteArray)):(Dz l).map (·.2)=l.reverse:=by
 apply Hf
 ·rw[B4,OG,List.length_reverse]
 ·intro i h1 h2;rw[List.length_reverse] at h2;rw[HJ,List.getElem_reverse];unfold Dz;simp;rw[Bl (by omega)];rfl
def Kh(n₀ a:Nat)(b c:World):Prop:=Below n₀ b c/\∀v,b.cell? ⟨a,0,none⟩=some v->c.cell? ⟨a,0,none⟩=some v
theorem iX{n₀ a:Nat}{A B C:World}(h:Kh n₀ a A B)(k:Kh n₀ a B C):Kh n₀ a A C:=⟨h.1.trans k.1,λv b=>k.2 v (h.2 v b)⟩
theorem iY{n₀ b:Nat}{w:World}(c:n₀<=w.heap.size)(a:World)(l:Nat)(o o':Obj)(hl:w<=l)(h:a.heap[l]?=some o)(hc:o.isCells=false)(f:o.isWalk=false):Kh n₀ b a (a.putObj l o'):=
 ⟨belowK_b c a l o o' hl h hc f,λ_ d=>Hn d (Hv a l o') (λg e=>by cases e;exact⟨_,h,hc⟩)⟩
theorem iZ(n₀ b:Nat)(a:World):Kh n₀ b a a:=⟨A2 _ _,λ_ h=>h⟩
theorem ja(F:Fence)(n:Nat)(R:F.fn 214)(V:F.round=none)(Y:1<=n)(l j n₀:Nat)(a:Option Addr)(cap:Nat)(c:List (Int×ByteArray))(Z:c.length<=1000000)(g m:List Ms->World->Prop)
 (S:∀pre x f,g pre f->pre.length<c.length->YieldAt F (n-1) prog l (Rk x) f λe d=>
  (e= .returned (.bool true)/\g (pre++[x]) d/\Kh n₀ j f d)\/(e= .returned (.bool false)/\m (pre++[x]) d))
 (f:World)(Q:f.cell? ⟨j,0,none⟩=some (.slice a c.length cap))(hc:∀(d:World),Below n₀ f d->∀i (t:i<c.length),∃b off,a=some ⟨b,off,none⟩/\d.cell? ⟨b,off+i*2,none⟩=some (.int .i64 c[i].1)/\d.cell? ⟨b,off+i*2+1,none⟩=some (.string c[i].2))(h0:g [] f):
 CallsIn F n prog 214 #[.func (.yield l) #[] #[], .pointer (some ⟨j,0,none⟩)] f λe d=>(∃v,e= .returned v)/\
  ((∃ys,ys=Dz c/\g ys d)\/(∃pre,pre<+:Dz c/\m pre d)):=by
 have M:=A0 hc;clear hc;refine Ht func214 rfl R ?_ V;simp only[ntmps214,D2,BV,C4,Nat.reduceAdd,Nat.reduceSub,F1,F2,GV,F3,B7,D3];gi_wp2
 gi_loopw [3] (λi wr=>∃(k:Nat),i= .int .i64 ((c.length:Int) -1-(k:Int))/\k<=c.length/\Hid (g ((Dz c).take k) wr)/\Below n₀ f wr/\wr.cell? ⟨j,0,none⟩=some (.slice a c.length cap))
  (λi _=>(intOf i+1).toNat)
 case atStart=>exact⟨0,by simp,by omega,h0,A2 _ _,Q⟩
 case round=>
  obtain⟨k,rfl,hk,o,H,C⟩:=hrel;have w:=A0 H;clear H;by_cases U:k<c.length
  ·have T:c.length-1-k<c.length:=by omega
   obtain⟨b,off,rfl,A,B⟩:=M wr w (c.length-1-k) T;have y:=A0 (iW c U);obtain⟨W,tmps,assign,body,hy,r⟩:=S _ (c.length-1-k,c[c.length-1-k]) wr o (by rw[B5,OG];omega);have t:(c.length:Int) -1-(k:Int)=((c.length-1-k:Nat):Int):=by omega
   rw[t];generalize c[c.length-1-k]=p at*;obtain⟨x,s⟩:=p;dsimp only[Rk] at hy A B;generalize G:c.length-1-k=q at*;have N:=A0 G;clear t G;have X:(0:Int)<=(q:Int):=by omega
   have g1:(q:Int)<(c.length:Int):=by omega
   gi_wp2;refine r.mono ?_;rintro e z (⟨rfl,D,u⟩|⟨rfl,E⟩)
   ·have K:Hid (g ((Dz c).take (k+1)) z):=by unfold Hid;rw[y.out];exact D
    have I:=A0 (w.trans u.1);have P:=u.2 _ C;clear D u r hy C A B;gi_wp2;exact⟨⟨k+1,by have:=N.out;go_num,by omega,K,I,P⟩,by simp[intOf]⟩
   ·have O:Hid ((Dz c).take (k+1)<+:Dz c):=List.take_prefix _ _;have L:Hid (m ((Dz c).take (k+1)) z):=by unfold Hid;rw[y.out];exact E
    clear E r hy;gi_wp2;refine A5 (results_none rfl _ _ _) rfl ?_;exact⟨⟨_,rfl⟩, .inr ⟨_,O,L⟩⟩
  ·obtain rfl:k=c.length:=by omega
   have J:Hid (g (Dz c) wr):=by
    have h:=o.out;rw[E2 (by rw[OG];exact A1 _)] at h;exact h
   have hd:decide ((0:Int)<=(c.length:Int) -1-(c.length:Int))=false:=A6 (by omega);clear o;gi_wp2
   go_end0
   exact⟨⟨_,rfl⟩, .inl ⟨_,rfl,J⟩⟩
theorem jb(F:Fence)(n:Nat)(b:F.fn 129)(c:F.round=none)(a:Option Addr)(len cap:Nat)(w:World):
 CallsIn F n prog 129 #[.slice a len cap] w λe w'=>e= .returned (.func (.func 214) #[] #[.pointer (some ⟨w,0,none⟩)])/\w'=w.alloc (.cells #[.slice a len cap] 24):=by
 refine Ht func129 rfl b ?_ c;simp only[ntmps129,D2,BV,C4,Nat.reduceAdd,Nat.reduceSub,F1,F2,GV,F3,B7,D3];gi_wp2;go_ret;exact⟨rfl,rfl⟩
theorem jc(F:Fence)(n:Nat)(s:F.fn 214)(C:F.round=none)(z:1<=n)(d n₀:Nat)(a:Option Addr)(cap:Nat)(c:List (Int×ByteArray))(B:c.length<=1000000)(w0 w:World)(r:d<w.heap.size)
 (hc:w.cell? ⟨d,0,none⟩=some (.slice a c.length cap))(t:QG w0 (.slice a c.length cap) c)(g:Below w0 w0 w)(A:w0<=n₀):
 SeqStopsK F n prog 214 #[.pointer (some ⟨d,0,none⟩)] Rk (Kh n₀ d) (λys=>ys=Dz c) (λpre=>pre<+:Dz c) c.length w:=λl h j k e _ _ v h0=>by
 have x:=(e.cell (p:=⟨d,0,none⟩) r).trans hc;exact ja F n s C z l d n₀ a cap c B h j v k x (λm u i y=>by
  obtain⟨b,off,ha,hb,o,q⟩:=QH t y;have f:Below w0 w0 m:=g.trans ((e.mono g.size).trans (u.mono A));exact⟨b,off,ha,(f.cell (p:=⟨b,off+i*2,none⟩) hb).trans o,(f.cell (p:=⟨b,off+i*2+1,none⟩) hb).trans q⟩) h0
end
section
attribute [local go_sem] Oper.semAt_some
def AV(d:Dk)(x:Nat):ByteArray:=match d.cache.reverse.find? (λp=>p.1==(x:Int)) with
 |some p=>p.2
 |none=>d.kept.getD x ByteArray.empty
theorem jd{l:List (Int×ByteArray)}{last:Int×ByteArray}{y:Int}{pre:List Ms}{i:Nat}{a:List Ms}(hp:pre<+:Dz l)(b:pre=a++[(i,last)])(c:∀q∈a,q.2.1≠y)(hl:last.1=y):
 l.reverse.find? (λp=>p.1==y)=some last:=by
 obtain⟨rest,hr⟩:=hp;rw[<-Wu,<-hr,b];simp only[D1,F4,R7,C1];rw[List.find?_append,HS.2 (λq d=>by
  obtain⟨f,e,rfl⟩:=E1.1 d;simpa using c f e)]
 simp[hl]
theorem je{l:List (Int×ByteArray)}{y:Int}(a:∀q∈Dz l,q.2.1≠y):l.reverse.find? (λp=>p.1==y)=none:=by
 rw[<-Wu,HS];intro q b;obtain⟨d,c,rfl⟩:=E1.1 b;simpa using a d c
theorem jf(aV aU k:Value)(d:Dk)(x:Nat)(w:World)(h:By w aV aU k d)(ac:Bd d)(hd:d.dead=false)(h1:x<d.kept.length):
 CallsIn Fence.wide 6 prog 56 #[Bm aV aU k d, .int .i64 x] w λe w'=>e= .returned (.tuple #[.string (AV d x), .int .i64 0])/\Below w w w':=by
 obtain⟨kept,cache,fuse,keep,dead⟩:=d;dsimp only at hd;subst hd;have bt:=ac.cmost;dsimp only at h1 bt;obtain⟨a1,b5⟩:=Hx2 h ac;obtain⟨m,o,rfl⟩:=AK h.kept;obtain⟨g,j,rfl⟩:=AK h.cache;have aj:Hid (AV ⟨kept,cache,fuse,keep,false⟩ x=match cache.reverse.find? (λp=>p.1==(x:Int)) with|some p=>p.2|none=>kept.getD x ByteArray.empty):=rfl;generalize AV ⟨kept,cache,fuse,keep,false⟩ x=R at*;have ah:=A0 (Aa.new w [.slice m kept.length o, .slice g cache.length j, .int .i64 fuse,k, .bool false] 27);obtain⟨F,G⟩:∃F,F=(((w.alloc (.cells #[.slice m kept.length o, .slice g cache.length j, .int .i64 fuse,k, .bool false] 27)).alloc (.cells #[.int .i64 x] 3)).alloc (.cells #[.string ⟨#[]⟩] 9)).alloc (.cells #[.int .i64 0] 32):=⟨_,rfl⟩;have bK:F=w.heap.size+4:=by rw[G];simp
 have V:Hid (Below w w F):=by
  unfold Hid;rw[G];exact((((A2 _ _).alloc (A1 _) _).alloc (by simp) _).alloc (by simp;omega) _).alloc (by simp;omega) _
 have Z:Hid (Aa F w.heap.size [.slice m kept.length o, .slice g cache.length j, .int .i64 fuse,k, .bool false] 27):=by
  unfold Hid;rw[G];exact ah.below ((((A2 _ _).alloc (A1 _) _).alloc (by simp) _).alloc (by simp) _)
 have ay:Hid (Aa F (w+1) [.int .i64 x] 3):=by
  unfold Hid;rw[G];have h:=Aa.new (w.alloc (.cells #[.slice m kept.length o, .slice g cache.length j, .int .i64 fuse,k, .bool false] 27)) [.int .i64 x] 3;rw[show(w.alloc (.cells #[.slice m kept.length o, .slice g cache.length j, .int .i64 fuse,k, .bool false] 27)).heap.size=w.heap.size+1 by simp] at h;exact h.below (((A2 _ _).alloc (A1 _) _).alloc (by simp) _)
 have ao:Hid (Aa F (w+1+1) [.string ⟨#[]⟩] 9):=by
  unfold Hid;rw[G];have h:=Aa.new ((w.alloc (.cells #[.slice m kept.length o, .slice g cache.length j, .int .i64 fuse,k, .bool false] 27)).alloc (.cells #[.int .i64 x] 3)) [.string ⟨#[]⟩] 9;rw[show((w.alloc (.cells #[.slice m kept.length o, .slice g cache.length j, .int .i64 fuse,k, .bool false] 27)).alloc (.cells #[.int .i64 x] 3)).heap.size=w.heap.size+1+1 by simp] at h;exact h.below ((A2 _ _).alloc (A1 _) _)
 have ak:Hid (Aa F (w+1+1+1) [.int .i64 0] 32):=by
  unfold Hid;rw[G];have h:=Aa.new (((w.alloc (.cells #[.slice m kept.length o, .slice g cache.length j, .int .i64 fuse,k, .bool false] 27)).alloc (.cells #[.int .i64 x] 3)).alloc (.cells #[.string ⟨#[]⟩] 9)) [.int .i64 0] 32;rw[show(((w.alloc (.cells #[.slice m kept.length o, .slice g cache.length j, .int .i64 fuse,k, .bool false] 27)).alloc (.cells #[.int .i64 x] 3)).alloc (.cells #[.string ⟨#[]⟩] 9)).heap.size=w.heap.size+1+1+1 by simp] at h;exact h
 have av:=A0 G.symm;have aM:=KS _ _ _ _ F (a1.below V) b5;obtain⟨c0,c1,c2,c3,c4⟩:=Z.five;clear h ac G ah;refine M0 func56 rfl trivial ?_ rfl;simp only[ntmps56,D2,BV,C4,Nat.reduceAdd,Nat.reduceSub,F1,F2,GV,F3,B7,D3];gi_wp2;rw[av.out];refine⟨trivial,(FR (n:=6-1)|>.2 aM).mono ?_⟩;rintro e aX ⟨rfl,L⟩;have bw:w.heap.size+4<=aX.heap.size:=by have:=L.size;omega
 obtain⟨a0,a5,ap,al,a3⟩:=Hx5 (Z.below L) (ay.below L) (ao.below L) (ak.below L) (V.trans (L.mono V.size));clear c0 c1 c2 c3 c4 aM L Z ay ao ak V av bK;obtain⟨c0,c1,c2,c3,c4⟩:=a0.five;have af:=a5.cell 0 rfl;have aT:=QI m kept.length o (.slice g cache.length j) k fuse false x aX (by omega) (by omega);gi_wp2;refine⟨trivial,(FR (n:=6-1)|>.2 aT).mono ?_⟩;rintro e u ⟨rfl,M⟩;have bP:w.heap.size+4<=u.heap.size:=by have:=M.size;omega
 obtain⟨ai,b8,b6,b2,au⟩:=Hx5 (a0.below M) (a5.below M) (ap.below M) (al.below M) (a3.trans (M.mono a3.size));clear c0 c1 c2 c3 c4 af aT M a0 a5 ap al a3 bw;obtain⟨c0,c1,c2,c3,c4⟩:=ai.five;gi_wp2;refine⟨trivial,(jb Fence.wide (6-1) trivial rfl _ _ _ _).mono ?_⟩;rintro e w' ⟨rfl,rfl⟩;gi_wp2;have C:Below u u (u.alloc (.cells #[.slice g cache.length j] 24)):=(A2 _ _).alloc (A1 _) _;obtain⟨b0,b9,b7,b3,a4,aq⟩:=Hx6 (ai.below C) (b8.below C) (b6.below C) (b2.below C) (au.trans (C.mono au.size)) (Aa.new u [.slice g cache.length j] 24);have bx:=jc Fence.wide (6-1) trivial rfl (by omega) u.heap.size w.heap.size g j cache (by omega) w (u.alloc (.cells #[.slice g cache.length j] 24)) aq.lt (aq.cell 0 rfl) a1.cache a4 (A1 _);have S:w<=(u.alloc (.cells #[.slice g cache.length j] 24)).heap.size:=a4.size;refine wpIn_rangeFunc_ownH rfl (by omega) (gf:=214) (lb:=#[.pointer (some ⟨u,0,none⟩)]) rfl trivial (enters_of func214 (by kernel_rfl) rfl)
  bx iX (iY S) (A2 _ _) (λ_=>rfl)
  (λpre a=>(((∀q∈pre,q.2.1≠(x:Int))/\Aa a w.heap.size [.slice m kept.length o, .slice g cache.length j, .int .i64 fuse,k, .bool false] 27)/\(Aa a (w+1) [.int .i64 x] 3/\Aa a (w+1+1) [.string ⟨#[]⟩] 9))/\Aa a (w+1+1+1) [.int .i64 0] 32/\Below w w a)
  (λc pre a=>(c= .ret/\∃ini i last,pre=ini++[(i,last)]/\(∀q∈ini,q.2.1≠(x:Int))/\last.1=(x:Int)/\Aa a (w+1+1) [.string last.2] 9/\Aa a (w+1+1+1) [.int .i64 0] 32)/\Below w w a)
  (G6 (G6 (G6 (λs A B row hs _ _=>hs) (DY _ _ _ _)) (G6 (DY _ _ _ _) (DY _ _ _ _))) (G6 (DY _ _ _ _) (IW (A1 _) S)))
  (λc=>G6 (λs A B row hs Y hr=>by
   obtain⟨hc,ini,i,last,O,W,X,bq,bs⟩:=hs;exact⟨hc,ini,i,last,O,W,X,DY _ _ _ _ () A B row bq Y hr,DY _ _ _ _ () A B row bs Y hr⟩) (IW (A1 _) S))
  ⟨⟨⟨by simp,b0⟩,b9,b7⟩,b3,a4⟩
  (λp a8 a=>∃N,Aa a N [.int .i64 p.2.1, .string p.2.2] 131/\w.heap.size+4<=N/\a8={tmps:=#[Bm (.slice m kept.length o) (.slice g cache.length j) k ⟨kept,cache,fuse,keep,false⟩, .int .i64 x, .pointer (some ⟨w,0,none⟩), .pointer (some ⟨w+1,0,none⟩), .pointer (some ⟨w+1+1,0,none⟩), .pointer (some ⟨w+1+1+1,0,none⟩),undef, .pointer (some ⟨N,0,none⟩), .agg #[.slice m kept.length o, .slice g cache.length j, .int .i64 fuse,k, .bool false], .bool true, .bool false, .pointer (some ⟨w,4,none⟩), .bool false, .agg #[.slice m kept.length o, .slice g cache.length j, .int .i64 fuse,k, .bool false], .int .i64 x, .bool true, .bool false, .pointer (some ⟨w,1,none⟩), .slice g cache.length j, .func (.func 214) #[] #[.pointer (some ⟨u,0,none⟩)], .int .i64 p.1, .agg #[.int .i64 p.2.1, .string p.2.2],undef,undef,undef,undef,undef,undef,undef,undef,undef,undef,undef],defers:=[]})
  (λp a8 s A B row hs Y hr=>by
   obtain⟨N,h1,h2,h3⟩:=hs;exact⟨N,DY _ _ _ _ () A B row h1 Y hr,h2,h3⟩) ?assign ?body ?done ?stop
 case assign=>
  rintro l pre p a K ⟨⟨⟨J,P⟩,I,t⟩,r,z⟩ E;have b4:=A0 E;clear E;gi_wp2;have C:Below a a (a.alloc (.cells #[.int .i64 p.2.1, .string p.2.2] 131)):=(A2 _ _).alloc (A1 _) _;have aF:=z.size;exact b4 _ _ ((KeepsOthers.alloc _ _).from _) ⟨(A2 _ _).alloc aF _,λv bL=>Hn bL (Mx a _ none) (λT e=>by cases e)⟩ ⟨⟨⟨J,P.below C⟩,I.below C,t.below C⟩,r.below C,z.trans (C.mono aF)⟩ ⟨a,Aa.new a [.int .i64 p.2.1, .string p.2.2] 131,by have:=r.lt;omega,rfl⟩
 case body=>
  rintro l pre p a8 a hl ⟨T,hr⟩ ⟨⟨⟨J,P⟩,I,t⟩,r,z⟩ ⟨N,ab,bO,rfl⟩ bu;obtain⟨i,y,s⟩:=p;dsimp only at ab⊢;obtain⟨bV,bX,_,_⟩:=ab.two;have af:=I.cell 0 rfl;have bM:=t.cell 0 rfl;have bN:=t.free 0;have bp:=r.cell 0 rfl;have O:=r.free 0;obtain⟨ag,ar,an,ax,b1,bb⟩:=Hx6 J t r z P I;clear J t r z P I ab hl hr bu;by_cases hy:y=(x:Int)
  ·have ad:(y==(x:Int))=true:=beq_iff_eq.2 hy;have bc:=A0 hy;clear hy;have bl:=A0 (ar.set 0 (.string s));obtain⟨a6,a7,Q⟩:=Hx3 (bl.other (by omega:w.heap.size+1+1+1≠w.heap.size+1+1) 0 (.int .i64 0)) ((an.other (by omega:w.heap.size+1+1≠w.heap.size+1+1+1) 0 (.string s)).set 0 (.int .i64 0)) ((ax.setCell (p:=⟨w+1+1,0,none⟩) (by show w<=w.heap.size+1+1;omega) (.string s)).setCell (p:=⟨w+1+1+1,0,none⟩) (by show w<=w.heap.size+1+1+1;omega) (.int .i64 0));gi_wp2;exact⟨((NB _ _ _).trans (NB _ _ _)).from _,⟨rfl,pre,i,(y,s),rfl,ag,bc,a6,a7⟩,Q⟩
  ·have ad:(y==(x:Int))=false:=beq_eq_false_iff_ne.2 hy;have HAll2:Hid (∀q∈pre++[(i,(y,s))],q.2.1≠(x:Int)):=λq ad=>(GA.1 ad).elim (ag q) (λe=>by rw[B6.1 e];exact hy);clear hy;gi_wp2;exact⟨M4 _ _,iZ _ _ _,⟨⟨HAll2,b1⟩,bb,ar⟩,an,ax⟩
 case done=>
  rintro D ys a aa rfl ⟨⟨⟨J,P⟩,I,t⟩,r,z⟩ E;have a2:Hid (R=kept.getD x ByteArray.empty):=by unfold Hid;rw[aj.out,je J]
  obtain⟨b,off,rfl,aK,hc⟩:=Hd (f:=Value.string) a1.kept h1;have bT:=(z.cell (p:=⟨b,off+x,none⟩) aK).trans hc;have aL:kept.getD x ByteArray.empty=kept[x]:=by simp[B9,h1]
  have HRes2:Hid (R=kept[x]):=by unfold Hid;rw[a2.out,aL]
  generalize kept[x]=U at*;obtain⟨c5,c6,c7,c8,c9⟩:=P.five;have af:=I.cell 0 rfl;have bM:=t.cell 0 rfl;have bN:=t.free 0;have bp:=r.cell 0 rfl;have O:=r.free 0;obtain⟨a6,a7,Q⟩:=Hx3 ((t.set 0 (.string U)).other (by omega:w.heap.size+1+1+1≠w.heap.size+1+1) 0 (.int .i64 0)) ((r.other (by omega:w.heap.size+1+1≠w.heap.size+1+1+1) 0 (.string U)).set 0 (.int .i64 0)) ((z.setCell (p:=⟨w+1+1,0,none⟩) (by show w<=w.heap.size+1+1;omega) (.string U)).setCell (p:=⟨w+1+1+1,0,none⟩) (by show w<=w.heap.size+1+1+1;omega) (.int .i64 0));have aC:=(((NB a ⟨w+1+1,0,none⟩ (.string U)).trans (NB _ ⟨w+1+1+1,0,none⟩ (.int .i64 0))).same D _ E rfl);have bR:(x:Int)<(kept.length:Int):=by omega
  have H:=A0 aC;clear J aL hc aK E aC;gi_wp2;refine⟨by simp, .inl ⟨_,_,rfl,I0 H,?_⟩⟩;have a9:=Hn (a6.cell 0 rfl) (Hv _ D (.deferred none)) (λT e=>by cases e;exact⟨_,H,rfl⟩);have d1:=Hn (a7.cell 0 rfl) (Hv _ D (.deferred none)) (λT e=>by cases e;exact⟨_,H,rfl⟩);refine⟨.tuple #[.string U, .int .i64 0],?_,by rw[HRes2.out],Q.trans (belowK_b (w:=u.alloc (.cells #[.slice g cache.length j] 24)) S _ D _ _ aa H rfl rfl)⟩;simp[results,Tryz.f56,go_sem,a9,d1]
 case stop=>
  rintro D c pre a aa aP ⟨⟨rfl,ini,i,last,O,W,X,t,r⟩,z⟩ E;have a2:Hid (R=last.2):=by unfold Hid;rw[aj.out,jd aP O W X]
  obtain⟨H,Q⟩:=Hx2 E z;have a9:=Hn (t.cell 0 rfl) (Hv _ D (.deferred none)) (λT e=>by cases e;exact⟨_,E,rfl⟩);have d1:=Hn (r.cell 0 rfl) (Hv _ D (.deferred none)) (λT e=>by cases e;exact⟨_,E,rfl⟩);clear E z aP O W X;gi_wp2;refine⟨by simp, .inl ⟨_,_,rfl,I0 H,?_⟩⟩;refine⟨.tuple #[.string last.2, .int .i64 0],?_,by rw[a2.out],Q.trans (belowK_b (w:=u.alloc (.cells #[.slice g cache.length j] 24)) S _ D _ _ aa H rfl rfl)⟩;simp[results,Tryz.f56,go_sem,a9,d1]
theorem Wv(b a c:Value)(d:Dk)(x:Nat)(w:World)(h:By w b a c d)(f:Bd d)(hd:d.dead=false)(h1:x<d.kept.length):
 Calls prog 56 #[Bm b a c d, x] w λe w'=>e= .returned (.tuple #[.string (AV d x), .int .i64 0])/\Below w w w':=
 (FR (n:=6)).1 (jf b a c d x w h f hd h1)
end
end Go.Proofs.YtmajkjjjfodhlaaGreatDoor
