/- Part Man. No condition of its own. -/
import Derived.Test.YtmajkjjjfodhlaaGreatDoorMam
namespace Go.Proofs.YtmajkjjjfodhlaaGreatDoor
open Go.RowKit Tryz
set_option linter.all false
set_option maxRecDepth 100000
set_option maxHeartbeats 8000000
section
open Go.RowKit Go.Lib
def FO(l:List Us)(i:Nat)(u:Us):List Us:=l.take i++u::l.drop i
theorem gZ{l:List Us}{i:Nat}(h:i=l.length)(u:Us):Al (FO l i u)=Al l++Bn u:=by
 subst h;unfold FO;rw[D4,List.drop_length,Mk];rfl
theorem VO(l:List Us)(i:Nat)(u:Us):Al (FO l i u)=Al (l.take i)++Bn u++Al (l.drop i):=by
 unfold FO;rw[Mk,C1];rfl
theorem ia(m:Value)(n b base B:Nat)(l:List Us)(u:Us)(w:World)(a:w.ownsRow base 47 4 m n (Al l))(i:w.heap[b]?=some (.cells (Bn u).toArray 47 (0,0)))(J:n<=1000000)(y:B<=base)(z:base<=w.heap.size):
 Calls prog 243 #[m, n, .slice (some ⟨b,0,none⟩) 1 1] w λe w'=>
  ∃o,e= .returned o/\w'.ownsRow base 47 4 o (n+1) (Al (FO l n u))/\Below B w w':=by
 obtain⟨i0,A,D,E,F⟩:=BW J9;have g:n=l.length:=(ED a).2;obtain⟨a0,c0,rfl,I,K⟩:=Aw a;obtain⟨r,p⟩:=Hx2 a (gZ g u);have v:Hid (∀j x,(Bn u)[j]?=some x->w.cell? ((⟨b,0,none⟩:Addr).add j)=some x):=λj x C=>by
  rw[Bo,B2,H6 i];exact C
 have c:∀k,(Value.slice a0 n c0).ownBlock=some k->B<=k:=λk hk=>A8 y (Ah a k hk);have t:=A0 c;have H:(n:Int)<=(c0:Int):=by omega
 clear g a i c;go_enter func243,ntmps243;go_wp2_with (first
  |(at_builtin;refine Ho _ rfl _ _ 45 rfl base 47 i0 _ 4 32 underlying45 A D E F rfl (by decide) (.slice a0 n c0) _ _ rfl r ⟨b,0,none⟩ 1 1 (Bn u) rfl rfl v (Ov _) (by simp[maxLen];omega) (by omega) z ?_
    intro L G h f _;have d:Below B w G:=(A2 B w).grown f (by omega) t;obtain⟨s,q⟩:=Hx2 h d;clear h f d)
  |fail)
 all_goals
  go_ret;exact⟨_,rfl,by rw[p.out];exact s,q⟩
theorem ib(g n cap f base B:Nat)(l:List Us)(u:Us)(i:Nat)(w:World)(z:w.ownsRow base 47 4 (.slice (some ⟨g,0,none⟩) n cap) n (Al l))(o:w.heap[f]?=some (.cells (Bn u).toArray 47 (0,0)))(I:g≠f)(a0:i<n)(a2:n<cap)(a1:n<=1000000)(Y:B<=base):
 Calls prog 243 #[.slice (some ⟨g,0,none⟩) n cap, i, .slice (some ⟨f,0,none⟩) 1 1] w λe w'=>
  ∃J,e= .returned J/\w'.ownsRow base 47 4 J (n+1) (Al (FO l i u))/\Below B w w':=by
 have s:n=l.length:=(ED z).2;obtain⟨cur,c1,c2,c3,c4,c5,t⟩:=Ot z;have Z:cap<=9223372036854775807:=by unfold maxLen at c4;omega
 have p:(Al (l.drop i)).length=(n-i)*4:=by rw[Iw,G1,<-s]
 have O:∀lb x,(callFunc 295 #[.slice (some ⟨f,0,none⟩) 1 1, .slice (some ⟨g,(i+1)*4,none⟩) lb x]).run prog w= .ok (.value (.bool false)) w:=λlb x=>by
  rw[run_callFunc_extern func295 (by kernel_rfl) (by kernel_rfl) (by kernel_rfl) (e:=Extern.SlicesOverlaps.overlaps #[45,45] #[4]) (by kernel_rfl),
   Lib.run_overlaps_apart w 45 4 47 underlying45 4 (λw=>by kernel_rfl) ⟨f,0,none⟩ ⟨g,(i+1)*4,none⟩ 1 1 lb x (by simpa using I.symm) 47 47 4 (cap*4) (by simp[World.shape?,o]) (by simp[World.shape?,c2,c5]) (by omega) (by simp[World.frozen?,o]) (by simp[World.frozen?,o])]
  rfl
 obtain⟨a,m⟩:∃a,a=DI cur ((i+1)*4) (Al (l.drop i)):=⟨_,rfl⟩;have H:a.length=cap*4:=by rw[m,KW (by omega)];exact c5
 obtain⟨b,k⟩:∃b,b=w.drew.setRow g a.toArray:=⟨_,rfl⟩;have y:b.heap[g]?=some (.cells a.toArray 47 (0,0)):=by rw[k];exact setRow_heap w.drew g cur.toArray a.toArray 47 (0,0) c2
 have C:Below B w b:=by rw[k];exact KY ((A2 _ _).drew) (by omega) _
 obtain⟨h,q⟩:∃h,h=DI a (i*4) (Bn u):=⟨_,rfl⟩;have E:∀d c A,(Builtin.copy_ #[45,45] d #[.slice (some ⟨g,(i+1)*4,none⟩) (n+1-(i+1)) c, .slice (some ⟨g,i*4,none⟩) (n+1-i) A]).run prog w.drew= .ok (goInt ((n-i:Nat))) b:=λd c A=>by
  rw[k,m];refine Oq w.drew 45 45 d 47 4 g ((i+1)*4) (n+1-(i+1)) c ⟨g,i*4,none⟩ (n+1-i) A (n-i) cur 47 (Al (l.drop i)) underlying45 Ow c2 (by simp only[Nat.min_def];split<;>omega) p (λj v r=>?_) (by omega) (Oh _);rw[Bo];show w.cell? _=_;rw[H6 c2];rw[QV,RX] at r;exact Ox s t (by omega) _ _ r
 have F:∀d c,(Builtin.copy_ #[45,45] d #[.slice (some ⟨g,i*4,none⟩) (n+1-i) c, .slice (some ⟨f,0,none⟩) 1 1]).run prog b= .ok (goInt 1) (b.setRow g h.toArray):=λd c=>by
  rw[q];refine Oq b 45 45 d 47 4 g (i*4) (n+1-i) c ⟨f,0,none⟩ 1 1 1 a 47 (Bn u) underlying45 Ow y (by simp only[Nat.min_def];split<;>omega) rfl (λj v r=>?_) (by show i*4+4<=_;omega) (Ov _);rw[Bo,B2,k,VN I];show w.cell? _=_;rw[H6 o];exact r
 have G:(b.setRow g h.toArray).ownsRow base 47 4 (.slice (some ⟨g,0,none⟩) (n+1) cap) (n+1) (Al (FO l i u)):=by
  refine Ou c1 (setRow_heap b g a.toArray h.toArray 47 (0,0) y) (by omega) c4 ?_ ?_
  ·rw[q,KW (by show i*4+4<=_;omega)];exact H
  ·have h1:a.take (i*4)=Al (l.take i):=by
    rw[m,VK (by omega) (by omega),QU,<-t,L4,HR (by omega)]
   have h2:a.drop (i*4+(Bn u).length)=Al (l.drop i)++cur.drop ((i+1)*4+(n-i)*4):=by
    show a.drop (i*4+4)=_;rw[m,show i*4+4=(i+1)*4 by omega];unfold DI;rw[C1,List.drop_left' (by rw[B5];omega),p]
   rw[q];unfold DI;rw[h1,h2,VO,<-C1];refine P6 ?_;rw[A9,A9,Iw,p,B5];show min i l.length*4+4+_=_;omega
 have D:Below B w (b.setRow g h.toArray):=KY C (by omega) _;obtain⟨L,K,M,N⟩:=Hx4 G D E F;have a3:((i:Int)+1).toNat=i+1:=by omega
 have a4:IntKind.i64.wrap ((i:Int)+1)=(i:Int)+1:=C0 _ (by omega);have S:(i:Int)+1<=(n:Int):=by omega
 have g1:(0:Int)<=(i:Int):=by omega
 have g2:(n:Int)<=(cap:Int):=by omega
 have T:(i:Int)<=(n:Int):=by omega
 have U:(0:Int)<=(i:Int)+1:=by omega
 have V:(n:Int)+1<=(cap:Int):=by omega
 have W:(i:Int)+1<=(n:Int)+1:=by omega
 have X:(i:Int)<=(n:Int)+1:=by omega
 have Q:((i:Int)==(n:Int))=false:=by simp;omega
 have d1:¬(cap=i+1):=by omega
 have d2:¬(cap=i):=by omega
 have R:decide ((cap:Int)<(n:Int)+1)=false:=by simp;omega
 clear z c1 c2 t E F G D C y H q p k m o;have P:=A0 s;clear s;go_enter func243,ntmps243;go_wp2_with (simp only[O])
 go_region_law ((refine step_copy_runI (by rfl) (.tmp 73) (.tmp 76) 45 45 (by rfl) (.slice (some ⟨g,(i+1)*4,none⟩) (n+1-(i+1)) (cap-(i+1))) (.slice (some ⟨g,i*4,none⟩) (n+1-i) (cap-i)) (by simp[Act.eval,Act.put]) (by simp[Act.eval,Act.put]) (M _ _ _) ?_))
 go_wp2_with (first|(refine wpList_copy_runI _ rfl _ _ 45 45 rfl _ _ rfl rfl (N _ _) ?_))
 go_ret;exact⟨_,rfl,L,K⟩
end
section
open Go.RowKit Go.Lib
theorem ic(g n s base B:Nat)(l:List Us)(u:Us)(i:Nat)(w:World)(F:w.ownsRow base 47 4 (.slice (some ⟨g,0,none⟩) n n) n (Al l))(G:w.heap[s]?=some (.cells (Bn u).toArray 47 (0,0)))(au:i<n)(av:n<=1000000)(ap:B<=base)(aq:base<=w.heap.size):
 Calls prog 243 #[.slice (some ⟨g,0,none⟩) n n, i, .slice (some ⟨s,0,none⟩) 1 1] w λe w'=>
  ∃a3,e= .returned a3/\w'.ownsRow base 47 4 a3 (n+1) (Al (FO l i u))/\Below B w w':=by
 obtain⟨i0,ac,ad,af,a2⟩:=BW J9;have y:n=l.length:=(ED F).2;have ar:g<w.heap.size:=AM F _ rfl;have ax:s<w.heap.size:=by
  rcases BZ s w.heap.size with h|h
  ·exact h
  ·rw[B8 h] at G;cases G
 obtain⟨cur,c1,c2,c3,c4,c5,I⟩:=Ot F;have K:(Al (l.drop i)).length=(n-i)*4:=by rw[Iw,G1,<-y]
 have A:(Al (l.take i)).length=i*4:=by rw[Iw,B5];omega
 have a1:(Builtin.firstCells i0.size i (.slice (some ⟨g,0,none⟩) i n)).run prog w.drew= .ok (Al (l.take i)).toArray w.drew:=by
  rw[af];refine run_firstCells_some w.drew 4 i ⟨g,0,none⟩ i n (Al (l.take i)) A (λj v p=>?_);rw[Bo,B2];show w.cell? _=_;rw[H6 c2];rw[QU,List.getElem?_take] at p;split at p
  ·exact Ox y I (by omega) _ _ p
  ·cases p
 obtain⟨a,z⟩:∃a,a=grownCap w (n+1) n 47:=⟨_,rfl⟩;have a9:n+1<=a:=by rw[z];exact grownCap_ge w _ _ _
 have aa:a<=maxLen:=by rw[z];exact grownCap_le_maxLen w (n+1) n _ (by unfold maxLen;omega)
 obtain⟨d,C⟩:∃d:List Value,d=Al (l.take i)++(Builtin.zeroCells (Value.agg #[.int .i64 0, .int .i64 0, .int .i64 0, .bool false]).cells (n+1-i)).toList++(Builtin.zeroCells (Value.agg #[.int .i64 0, .int .i64 0, .int .i64 0, .bool false]).cells (a-(n+1))).toList:=⟨_,rfl⟩;have R:d.length=a*4:=by
  rw[C];have e:(Value.agg #[.int .i64 0, .int .i64 0, .int .i64 0, .bool false]).cells.size=4:=by kernel_rfl
  simp only[A9,A,Builtin.zeroCells,Hy,Array.size_map,Array.size_range,e];omega
 have S:d.take (i*4)=Al (l.take i):=by rw[C,C1];exact P6 A
 have N:i+(n+1-i)=n+1:=by omega
 have Z:(n:Int)+1-(i:Int)=((n+1-i:Nat):Int):=by omega
 obtain⟨m,t⟩:∃m,m=w.drew.alloc (.cells d.toArray 47):=⟨_,rfl⟩;have P:∀k,(Builtin.append_ #[45,3] k #[.slice (some ⟨g,0,none⟩) i n, .int .i64 ((n:Int)+1-(i:Int))]).run prog w= .ok (.slice (some ⟨w,0,none⟩) (n+1) a) m:=λk=>by
  have h:=Lib.run_append_grow_zeros w 45 3 k 47 i0 _ .i64 .i64 underlying45 underlying3 ac ad (some ⟨g,0,none⟩) i n (Al (l.take i)) a1 (n+1-i) (by omega) (by omega) (by omega) (by omega) (by rw[a2];omega) (by rw[a2,N];exact growslice_fits (by omega) (by omega));rw[N,<-z] at h;rw[Z,h,t];have ab:(Al (l.take i)).toArray++Builtin.zeroCells (Value.agg #[.int .i64 0, .int .i64 0, .int .i64 0, .bool false]).cells (n+1-i)++Builtin.zeroCells (Value.agg #[.int .i64 0, .int .i64 0, .int .i64 0, .bool false]).cells (a-(n+1))=d.toArray:=by
   rw[C];apply Array.ext';simp
  rw[ab]
 obtain⟨H,J⟩:∃H,H=w.heap.size:=⟨_,rfl⟩;rw[<-J] at P;have L:m.heap[H]?=some (.cells d.toArray 47 (0,0)):=by rw[t,J];exact HE w.drew _
 have O:∀b o,b<H->m.cell? ⟨b,o,none⟩=w.cell? ⟨b,o,none⟩:=λb o hb=>by
  rw[t,HD _ _ _ (by show b<w.heap.size;omega)];rfl
 have T:Below B w m:=by rw[t];exact((A2 _ _).drew).alloc (by show B<=w.heap.size;omega) _
 obtain⟨f,D⟩:∃f,f=DI d (i*4) (Bn u):=⟨_,rfl⟩;have a0:f.length=a*4:=by rw[D,KW (by show i*4+4<=_;omega)];exact R
 obtain⟨c,x⟩:∃c,c=m.setRow H f.toArray:=⟨_,rfl⟩;have M:c.heap[H]?=some (.cells f.toArray 47 (0,0)):=by rw[x];exact setRow_heap m H d.toArray f.toArray 47 (0,0) L
 have U:Below B w c:=by rw[x];exact KY T (by omega) _
 have W:∀k q,(Builtin.copy_ #[45,45] k #[.slice (some ⟨H,i*4,none⟩) (n+1-i) q, .slice (some ⟨s,0,none⟩) 1 1]).run prog m= .ok (goInt 1) c:=λk q=>by
  rw[x,D];refine Oq m 45 45 k 47 4 H (i*4) (n+1-i) q ⟨s,0,none⟩ 1 1 1 d 47 (Bn u) underlying45 Ow L (by simp only[Nat.min_def];split<;>omega) rfl (λj v p=>?_) (by show i*4+4<=_;omega) (Ov _);rw[Bo,B2,O _ _ (by omega),H6 G];exact p
 obtain⟨r,E⟩:∃r,r=DI f ((i+1)*4) (Al (l.drop i)):=⟨_,rfl⟩;have X:∀k q Q,(Builtin.copy_ #[45,45] k #[.slice (some ⟨H,(i+1)*4,none⟩) (n+1-(i+1)) q, .slice (some ⟨g,i*4,none⟩) (n-i) Q]).run prog c.drew= .ok (goInt ((n-i:Nat))) (c.drew.setRow H r.toArray):=λk q Q=>by
  rw[E];refine Oq c.drew 45 45 k 47 4 H ((i+1)*4) (n+1-(i+1)) q ⟨g,i*4,none⟩ (n-i) Q (n-i) f 47 (Al (l.drop i)) underlying45 Ow M (by simp only[Nat.min_def];split<;>omega) K (λj v p=>?_) (by omega) (Oh _);rw[Bo];show c.cell? _=_;rw[x,VN (by omega),O _ _ (by omega),H6 c2];rw[QV,RX] at p;exact Ox y I (by omega) _ _ p
 have Y:(c.drew.setRow H r.toArray).ownsRow base 47 4 (.slice (some ⟨H,0,none⟩) (n+1) a) (n+1) (Al (FO l i u)):=by
  refine Ou (by omega) (setRow_heap c.drew H f.toArray r.toArray 47 (0,0) M) a9 aa ?_ ?_
  ·rw[E,KW (by omega)];exact a0
  ·have h1:f.take ((i+1)*4)=Al (l.take i)++Bn u:=by
    have h:=Q0 (cur:=d) (cs:=Bn u) (o:=i*4) (by omega);rw[show i*4+(Bn u).length=(i+1)*4 by show i*4+4=_;omega,<-D,S] at h;exact h
   have h2:=Q0 (cur:=f) (cs:=Al (l.drop i)) (o:=(i+1)*4) (by omega);rw[K,show(i+1)*4+(n-i)*4=(n+1)*4 by omega,<-E,h1] at h2;rw[h2,VO]
 have V:Below B w (c.drew.setRow H r.toArray):=KY U.drew (by omega) _;obtain⟨a5,a4,a8,a6,a7⟩:=Hx5 Y V P W X;have ay:((i:Int)+1).toNat=i+1:=by omega
 have aC:IntKind.i64.wrap ((i:Int)+1)=(i:Int)+1:=C0 _ (by omega);have aj:(i:Int)+1<=(n:Int):=by omega
 have g1:(0:Int)<=(i:Int):=by omega
 have ak:(i:Int)<=(n:Int):=by omega
 have al:(0:Int)<=(i:Int)+1:=by omega
 have an:(i:Int)+1<=(n:Int)+1:=by omega
 have ao:(i:Int)<=(n:Int)+1:=by omega
 have ah:((i:Int)==(n:Int))=false:=by simp;omega
 have d1:¬(a=i+1):=by omega
 have d2:¬(a=i):=by omega
 have d4:¬(n=i):=by omega
 have ai:decide ((n:Int)<(n:Int)+1)=true:=by simp;omega
 have ag:=A0 y;clear F c1 c2 c5 I W X Y V U T L M a0 E K t x D G O P J S R C z a1 A N Z y;go_enter func243,ntmps243;go_wp2_with (first
  |(at_builtin;refine Lib.wpList_append_run _ rfl _ _ _ _ rfl _ _ rfl rfl _ _ (a8 _) ?_)
  |(refine wpList_copy_runI _ rfl _ _ 45 45 rfl _ _ rfl rfl (a6 _ _) ?_))
 go_region_law ((refine step_copy_runI (by rfl) (.tmp 50) (.tmp 53) 45 45 (by rfl) (.slice (some ⟨H,(i+1)*4,none⟩) (n+1-(i+1)) (a-(i+1))) (.slice (some ⟨g,i*4,none⟩) (n-i) (n-i)) (by simp[Act.eval,Act.put]) (by simp[Act.eval,Act.put]) (a7 _ _ _) ?_))
 go_wp2_with fail;go_ret;exact⟨_,rfl,a5,a4⟩
theorem VP(c:Value)(n a base B:Nat)(l:List Us)(u:Us)(i:Nat)(w:World)(b:w.ownsRow base 47 4 c n (Al l))(j:w.heap[a]?=some (.cells (Bn u).toArray 47 (0,0)))(r:c.ownBlock≠some a)(q:i<=n)(f:n<=1000000)(d:B<=base)(k:base<=w.heap.size):
 Calls prog 243 #[c, i, .slice (some ⟨a,0,none⟩) 1 1] w λe w'=>
  ∃o,e= .returned o/\w'.ownsRow base 47 4 o (n+1) (Al (FO l i u))/\Below B w w':=by
 rcases Nat.lt_or_eq_of_le q with m|rfl
 ·obtain⟨g,cap,rfl,t,_⟩:=World.ownsRow.form b (by omega);have s:g≠a:=λe=>r (by rw[e];rfl);obtain⟨_,_,h,p,_⟩:=Aw b;injection h with _ _ h;subst h;rcases Nat.lt_or_eq_of_le p with hr|rfl
  ·exact ib g n cap a base B l u i w b j s m hr f d
  ·exact ic g n a base B l u i w b j m f d k
 ·exact ia c i a base B l u w b j f d k
end
theorem Kb{l:List Us}{a b:Int}(h:¬(AE l=true/\Eg l a≠0/\Eg l a+b<=1000000)):EY l a b=false:=by
 cases c:EY l a b with
 |false=>rfl
 |true=>
  have:=fS c;exact absurd ⟨this.1,by omega,this.2.2⟩ h
theorem VQ{l:List Us}{a b:Int}(h:AE l=true/\Eg l a≠0/\Eg l a+b<=1000000):EY l a b=true:=by
 unfold EY;rw[h.1,Hc h.2.1,Hc h.2.2];rfl
abbrev Fa(l:List Us)(x b:Int)(w:World)(e:Ending)(w':World):Prop:=∃a cap,e= .returned (.tuple #[.slice a (EZ l x b).length cap, .bool (EY l x b)])/\AT w' (.slice a (EZ l x b).length cap) (EZ l x b)/\Below w w w'
theorem VS{l:List Us}(h:AE l=true){x:Int}(b:Int):∀{i:Nat},CQ l x=some i->∃p:i<l.length,GM l x b=if FM (l[i].1,l[i].2.1,l[i].2.2.1+b,l[i].2.2.2)=true then l.set i (l[i].1,l[i].2.1,l[i].2.2.1+b,l[i].2.2.2) else l.eraseIdx i:=by
 induction l with
 |nil=>intro i hf;cases hf
 |cons y l o=>
  intro i hf;obtain⟨g1,g2,d⟩:=KU.1 h;rw[CQ] at hf;by_cases e:y.1=x
  ·rw[A4 e] at hf;injection hf with hf;subst hf;refine⟨by simp,?_⟩;have m:∀u∈l,u.1≠x:=λu n a=>by
    have:=g2 u n;have h5:=CE.1 g1;unfold Fl at this;omega
   have c:=fU (b:=b) m (EX.1 d).1;unfold GM at c⊢;rw[F4,List.filter_cons,c];have g:EC x b y=(y.1,y.2.1,y.2.2.1+b,y.2.2.2):=A4 e;rw[g];simp only[H5,HM,List.eraseIdx_cons_zero]
  ·rw[A3 e] at hf;cases a:CQ l x with
   |none=>rw[a] at hf;cases hf
   |some k=>
    rw[a] at hf;simp only[Q1,Hs] at hf;subst hf;obtain⟨hk,c⟩:=o d a;refine⟨by simpa using hk,?_⟩;have j:FM y=true:=by
     have:=(CE.1 g1).2.2.2.2.2.2;unfold FM;rw[J4,E0];exact this
    have f:GM (y::l) x b=y::GM l x b:=by
     unfold GM;rw[F4,show EC x b y=y from A3 e,List.filter_cons,A4 j]
    rw[f,c];simp only[WZ,G3,List.eraseIdx_cons_succ];split<;>rfl
theorem Kc{l:List Us}{x b:Int}(h:EY l x b=false):EZ l x b=[]:=by unfold EZ;rw[h];rfl
theorem Oy{l:List Us}{x b:Int}(h:EY l x b=true):EZ l x b=GM l x b:=by unfold EZ;rw[h];rfl
theorem ie(v:Value)(l:List Us)(x:Int)(w:World)(C:AT w v l)(hl:l.length<=140737488355328):
 Calls prog 262 #[v, x] w λe w'=>Fa l x 1 w e w':=by
 have hm:=Ka v l w C hl;obtain⟨F,H,V⟩:=Hx3 (λw' (h:Below w w w')=>Vx v l x w' (Aj C h) hl) C (λw' (h:Below w w w') (a0:l.length<=1000000)=>Oi v l w' (Aj C h) a0);obtain⟨a4,a5,rfl,a8,a3,a1⟩:=C;clear a1 a3;cases o:AE l with
 |false=>
  rw[o] at hm;have f:=A0 (Kb (l:=l) (a:=x) (b:=1) (λh=>by rw[o] at h;cases h.1));have n:=A0 (Kc f);clear o;go_enter func262,ntmps262;go_wp2_with fail;refine hm.mono ?_;rintro e G ⟨rfl,d⟩;go_wp2_with fail;refine A5 (C3 rfl _ _ _) rfl ?_;unfold Fa;rw[n.out,f.out];exact⟨none,0,rfl,Cq λ_=>rfl,d⟩
 |true=>
  rw[o] at hm;have K:=QS o x;have N:=A0 o;have a9:=GL o;clear o;cases q:CQ l x with
  |none=>
   have f:=A0 (Kb (l:=l) (a:=x) (b:=1) (λh=>h.2.1 (QQ q)));obtain⟨n,t⟩:=Hx2 (Kc f) (Vz q);clear q K;go_enter func262,ntmps262;go_wp2_with fail;refine hm.mono ?_;rintro e G ⟨rfl,d⟩;have hf:=F _ d;rw[t.out] at hf;go_wp2_with fail;refine hf.mono ?_;rintro e M ⟨rfl,m⟩;go_wp2_with fail;refine A5 (C3 rfl _ _ _) rfl ?_;unfold Fa;rw[n.out,f.out];exact⟨none,0,rfl,Cq λ_=>rfl,Cd d m⟩
  |some i=>
   obtain⟨A,S⟩:=VS N 1 q;obtain⟨_,L⟩:=QP q;obtain⟨t,Z,E⟩:=Hx3 (Vy q) S L;rw[L] at K;have s:=Vw l (l[i].2.2.1+1) i A;have Y:=A0 s;have R:0<=l[i].2.2.1->FM (l[i].1,l[i].2.1,l[i].2.2.1+1,l[i].2.2.2)=true:=λh=>by unfold FM;rw[J4,E0];left;simp only;omega
   have X:=A0 (R (by omega));have a6:decide ((i:Int)<0)=false:=by simp
   have a7:(i:Int)<(l.length:Int):=by omega
   have g1:(0:Int)<=(i:Int):=by omega
   clear q S L s R;obtain⟨c,hc⟩:∃c,l[i].2.2.1=c:=⟨_,rfl⟩;have k:=A0 hc;rw[hc] at K;clear hc;by_cases J:c<1
   ·have f:=A0 (Kb (l:=l) (a:=x) (b:=1) (λh=>h.2.1 (by rw[E.out,k.out];omega)));have n:=A0 (Kc f);have d1:decide (c<1)=true:=by simpa using J
    go_enter func262,ntmps262;go_wp2_with fail;refine hm.mono ?_;rintro e G ⟨rfl,d⟩;have hf:=F _ d;rw[t.out] at hf;go_wp2_with fail;refine hf.mono ?_;rintro e M ⟨rfl,m⟩;have j:=A0 (Cd d m);obtain⟨b0,off,D,I,u,y,r,z⟩:=E6 (Aj H j) A;subst D;rw[k.out] at r;clear d m u y z hf hm;go_wp2_with fail;refine A5 (C3 rfl _ _ _) rfl ?_;unfold Fa;rw[n.out,f.out];exact⟨none,0,rfl,Cq λ_=>rfl,j⟩
   by_cases P:1000000<=c
   ·have f:=A0 (Kb (l:=l) (a:=x) (b:=1) (λh=>by have:=h.2.2;rw[E.out,k.out] at this;omega));have n:=A0 (Kc f);have d1:decide (c<1)=false:=by simpa using J
    have d2:decide (1000000<=c)=true:=by simpa using P
    go_enter func262,ntmps262;go_wp2_with fail;refine hm.mono ?_;rintro e G ⟨rfl,d⟩;have hf:=F _ d;rw[t.out] at hf;go_wp2_with fail;refine hf.mono ?_;rintro e M ⟨rfl,m⟩;have j:=A0 (Cd d m);obtain⟨b0,off,D,I,u,y,r,z⟩:=E6 (Aj H j) A;subst D;rw[k.out] at r;clear d m u y z hf hm;go_wp2_with fail;refine A5 (C3 rfl _ _ _) rfl ?_;unfold Fa;rw[n.out,f.out];exact⟨none,0,rfl,Cq λ_=>rfl,j⟩
   ·have f:=A0 (VQ (l:=l) (a:=x) (b:=1) ⟨N,by rw[E.out,k.out];omega,by rw[E.out,k.out];omega⟩);have n:Hid (EZ l x 1=l.set i (l[i].1,l[i].2.1,l[i].2.2.1+1,l[i].2.2.2)):=by unfold Hid;rw[Oy f.out,Z.out,A4 X.out]
    have d1:decide (c<1)=false:=by simpa using J
    have d2:decide (1000000<=c)=false:=by simpa using P
    go_enter func262,ntmps262;go_wp2_with fail;refine hm.mono ?_;rintro e G ⟨rfl,d⟩;have hf:=F _ d;rw[t.out] at hf;go_wp2_with fail;refine hf.mono ?_;rintro e M ⟨rfl,m⟩;have j:=A0 (Cd d m);obtain⟨b0,off,D,I,u,y,r,z⟩:=E6 (Aj H j) A;subst D;rw[k.out] at r;clear d m u y z hf hm;have Q:=V _ j (by omega);go_wp2_with fail;refine Q.mono ?_;rintro e T ⟨aa,rfl,B,O⟩;obtain⟨g,cap,rfl,a2,_⟩:=World.ownsRow.form B (by omega);have f2:T.cell? ⟨g,i*4+2,none⟩=some (.int .i64 c):=by rw[B.cellAt (i*4+2) (by omega),(Ml l i A).2.2.1,k.out]
    have f3:T.frozen? ⟨g,i*4+2,none⟩=false:=B.frozenAt (i*4+2);have hs:=(B.stored (i*4+2) (.int .i64 (c+1))).1;have s:=Y.out;rw[k.out] at s;rw[s] at hs;have W:=A0 (ED hs).1;have U:=A0 ((Cd j O).setCell (p:=⟨g,i*4+2,none⟩) (A8 j.size a2) (.int .i64 (c+1)));clear B O hs s r I Q;go_wp2_with fail;refine A5 (C3 rfl _ _ _) rfl ?_;unfold Fa;rw[n.out,f.out,Di,k.out];exact⟨_,_,rfl,W,U⟩
theorem ig(v:Value)(l:List Us)(x:Int)(w:World)(z:AT w v l)(hl:l.length<=140737488355328):
 Calls prog 246 #[v, x] w λe w'=>Fa l x (-1) w e w':=by
 have hm:=Ka v l w z hl;obtain⟨F,U,a4⟩:=Hx3 (λw' (h:Below w w w')=>Vx v l x w' (Aj z h) hl) z (λw' (h:Below w w w') (a7:l.length<=1000000)=>Oi v l w' (Aj z h) a7);obtain⟨ai,aj,rfl,an,ad,a9⟩:=z;clear a9 ad;cases n:AE l with
 |false=>
  rw[n] at hm;have d:=A0 (Kb (l:=l) (a:=x) (b:= -1) (λh=>by rw[n] at h;cases h.1));have j:=A0 (Kc d);clear n;go_enter func246,ntmps246;go_wp2_with fail;refine hm.mono ?_;rintro e R ⟨rfl,f⟩;go_wp2_with fail;refine A5 (C3 rfl _ _ _) rfl ?_;unfold Fa;rw[j.out,d.out];exact⟨none,0,rfl,Cq λ_=>rfl,f⟩
 |true=>
  rw[n] at hm;have N:=QS n x;have S:=A0 n;have ao:=GL n;clear n;cases r:CQ l x with
  |none=>
   have d:=A0 (Kb (l:=l) (a:=x) (b:= -1) (λh=>h.2.1 (QQ r)));obtain⟨j,A⟩:=Hx2 (Kc d) (Vz r);clear r N;go_enter func246,ntmps246;go_wp2_with fail;refine hm.mono ?_;rintro e R ⟨rfl,f⟩;have hf:=F _ f;rw[A.out] at hf;go_wp2_with fail;refine hf.mono ?_;rintro e C ⟨rfl,q⟩;go_wp2_with fail;refine A5 (C3 rfl _ _ _) rfl ?_;unfold Fa;rw[j.out,d.out];exact⟨none,0,rfl,Cq λ_=>rfl,Cd f q⟩
  |some i=>
   obtain⟨t,a2⟩:=VS S (-1) r;obtain⟨_,O⟩:=QP r;obtain⟨A,I,E⟩:=Hx3 (Vy r) a2 O;rw[O] at N;have y:=Vw l (l[i].2.2.1+ -1) i t;have a6:=A0 y;have ak:decide ((i:Int)<0)=false:=by simp
   have al:(i:Int)<(l.length:Int):=by omega
   have g1:(0:Int)<=(i:Int):=by omega
   clear r a2 O y;obtain⟨c,hc⟩:∃c,l[i].2.2.1=c:=⟨_,rfl⟩;have k:=A0 hc;rw[hc] at N;clear hc;by_cases X:c<1
   ·have d:=A0 (Kb (l:=l) (a:=x) (b:= -1) (λh=>h.2.1 (by rw[E.out,k.out];omega)));have j:=A0 (Kc d);have d1:decide (c<1)=true:=by simpa using X
    go_enter func246,ntmps246;go_wp2_with fail;refine hm.mono ?_;rintro e R ⟨rfl,f⟩;have hf:=F _ f;rw[A.out] at hf;go_wp2_with fail;refine hf.mono ?_;rintro e C ⟨rfl,q⟩;have m:=A0 (Cd f q);obtain⟨b0,off,P,W,K,L,B,M⟩:=E6 (Aj U m) t;subst P;rw[k.out] at B;clear f q K L M hf hm;go_wp2_with fail;refine A5 (C3 rfl _ _ _) rfl ?_;unfold Fa;rw[j.out,d.out];exact⟨none,0,rfl,Cq λ_=>rfl,m⟩
   ·have d:=A0 (VQ (l:=l) (a:=x) (b:= -1) ⟨S,by rw[E.out,k.out];omega,by rw[E.out,k.out];omega⟩);have d1:decide (c<1)=false:=by simpa using X
    have a3:c+ -1=c-1:=by omega
    obtain⟨o,a0⟩:∃o,l[i].2.2.2=o:=⟨_,rfl⟩;obtain⟨H,J⟩:=Hx2 a0 a3;clear a0 a3;go_enter func246,ntmps246;go_wp2_with fail;refine hm.mono ?_;rintro e R ⟨rfl,f⟩;have hf:=F _ f;rw[A.out] at hf;go_wp2_with fail;refine hf.mono ?_;rintro e C ⟨rfl,q⟩;have m:=A0 (Cd f q);obtain⟨b0,off,P,W,K,L,B,M⟩:=E6 (Aj U m) t;subst P;rw[k.out] at B;clear f q K L M hf hm;have Y:=a4 _ m (by omega);go_wp2_with fail;refine Y.mono ?_;rintro e s ⟨ap,rfl,u,V⟩;obtain⟨g,cap,rfl,aa,_⟩:=World.ownsRow.form u (by omega);have f2:s.cell? ⟨g,i*4+2,none⟩=some (.int .i64 c):=by rw[u.cellAt (i*4+2) (by omega),(Ml l i t).2.2.1,k.out]
    have f3:s.frozen? ⟨g,i*4+2,none⟩=false:=u.frozenAt (i*4+2);have f4:s.cell? ⟨g,i*4+3,none⟩=some (.bool o):=by rw[u.cellAt (i*4+3) (by omega),(Ml l i t).2.2.2,H.out]
    have hs:=(u.stored (i*4+2) (.int .i64 (c-1))).1;have y:=a6.out;rw[k.out,J.out] at y;rw[y] at hs;have G:=A0 hs;have ab:=A8 m.size aa;have D:=A0 ((Cd m V).setCell (p:=⟨g,i*4+2,none⟩) ab (.int .i64 (c-1)));have ag:(s.setCell ⟨g,i*4+2,none⟩ (.int .i64 (c-1))).cell? ⟨g,i*4+2,none⟩=some (.int .i64 (c-1)):=World.cell?_setCell_same _ _ _ f2;have ah:(s.setCell ⟨g,i*4+2,none⟩ (.int .i64 (c-1))).cell? ⟨g,i*4+3,none⟩=some (.bool o):=by
     rw[J1 _ _ _ _ (by intro h;injection h with _ h _;omega)];exact f4
    have af:s=(s.setCell ⟨g,i*4+2,none⟩ (.int .i64 (c-1))).heap.size:=by simp
    have a5:Hid (w<=C.heap.size):=m.size;clear u V hs y B W Y f4 af;by_cases Q:c=1
    ·have b1:(c-1==0)=true:=by simp;omega
     cases o with
     |false=>
      have j:Hid (EZ l x (-1)=(l.set i (l[i].1,l[i].2.1,c-1,l[i].2.2.2)).eraseIdx i):=by
       unfold Hid;rw[Oy d.out,I.out,A3,List.eraseIdx_set_eq];unfold FM;simp only[H.out,k.out];simp;omega
      have Z:=gY g l.length cap C.heap.size w.heap.size (l.set i (l[i].1,l[i].2.1,c-1,l[i].2.2.2)) i _ G t (by omega) a5;clear Q;go_wp2_with fail;refine Z.mono ?_;rintro e aq ⟨rfl,a1,a8⟩;have T:=A0 (ED a1);clear a1 Z;go_wp2_with fail;refine A5 (C3 rfl _ _ _) rfl ?_;unfold Fa;have ac:=T.out.2;rw[j.out,d.out,<-ac];exact⟨_,_,rfl,T.out.1,D.trans a8⟩
     |true=>
      have j:Hid (EZ l x (-1)=l.set i (l[i].1,l[i].2.1,c-1,l[i].2.2.2)):=by
       unfold Hid;rw[Oy d.out,I.out,A4,k.out,J.out];unfold FM;simp only[H.out,Bool.or_true]
      clear Q;go_wp2_with fail;refine A5 (C3 rfl _ _ _) rfl ?_;unfold Fa;rw[j.out,d.out,Di];exact⟨_,_,rfl,(ED G).1,D⟩
    ·have b1:(c-1==0)=false:=by simp;omega
     have j:Hid (EZ l x (-1)=l.set i (l[i].1,l[i].2.1,c-1,l[i].2.2.2)):=by
      unfold Hid;rw[Oy d.out,I.out,A4,k.out,J.out];unfold FM;rw[J4,E0];left;simp only[k.out];omega
     clear Q;go_wp2_with fail;refine A5 (C3 rfl _ _ _) rfl ?_;unfold Fa;rw[j.out,d.out,Di];exact⟨_,_,rfl,(ED G).1,D⟩
theorem ii{l:List Us}{u:Us}:∀{k:Nat},k<=l.length->(∀y∈l.take k,y.1<u.1)->(∀h:k<l.length,¬l[k].1<u.1)->EQ l u=FO l k u:=by
 induction l with
 |nil=>intro k _ _ _;cases k<;>rfl
 |cons y l b=>
  intro k hk h1 h2;cases k with
  |zero=>
   have:=h2 (by simp);simp only[H5] at this;rw[EQ,A3 this];rfl
  |succ k=>
   rw[EQ,A4 (h1 y (by simp)),b (by simpa using hk) (λc a=>h1 c (by rw[SX];exact G2 _ a)) (λh=>by have:=h2 (by simpa using h);simpa using this)];rfl
abbrev Kd(l:List Us)(n:Int)(w:World)(e:Ending)(w':World):Prop:=∃a cap,e= .returned (.tuple #[.slice a (BN l n).length cap, .int .i64 (DG l n), .bool (Cc l n)])/\AT w' (.slice a (BN l n).length cap) (BN l n)/\Below w w w'
theorem VT{l:List Us}{n:Int}(h:Cc l n=false):BN l n=[]/\DG l n=0:=by unfold BN DG;rw[h];exact⟨rfl,rfl⟩
theorem VU{l:List Us}{n:Int}(h:Cc l n=true):BN l n=EQ l (Fo l n,n,1,false)/\DG l n=Fo l n:=by unfold BN DG;rw[h];exact⟨rfl,rfl⟩
theorem Q5{l:List Us}{n:Int}(h:¬(AE l=true/\1<=n/\n<=8)):Cc l n=false:=by
 unfold Cc Fo;rw[A3 h];rfl
theorem ij{l:List Us}{n:Int}(h:AE l=true/\1<=n/\n<=8):Fo l n=EA (CP l) n:=by unfold Fo;rw[A4 h]
theorem Oz{l:List Us}{n:Int}{w w':World}(h:Cc l n=false)(hb:Below w w w'):Kd l n w (.returned (.tuple #[.slice none 0 0, .int .i64 0, .bool false])) w':=by
 unfold Kd;rw[(VT h).1,(VT h).2,h];exact⟨none,0,rfl,Cq λ_=>rfl,hb⟩
theorem ik(v:Value)(l:List Us)(n:Int)(w:World)(J:AT w v l)(hl:l.length<=140737488355328):
 Calls prog 173 #[v, n] w λe w'=>Kd l n w e w':=by
 have hm:=Ka v l w J hl;obtain⟨Z,af,ah⟩:=Hx3 (λw' (h:Below w w w')=>gC v l w' (Aj J h) hl) (λw' (h:Below w w w') (ap:l.length<=1000000)=>Oi v l w' (Aj J h) ap) J;obtain⟨aK,aL,rfl,aM,av,ar⟩:=J;clear ar av;cases m:AE l with
 |false=>
  rw[m] at hm;have b:=A0 (Q5 (l:=l) (n:=n) (λh=>by rw[m] at h;cases h.1));clear m;go_enter func173,ntmps173;go_wp2_with fail;refine hm.mono ?_;rintro e M ⟨rfl,a⟩;go_wp2_with fail;refine A5 (results_tmp3 rfl _ _ _) rfl ?_;exact Oz b a
 |true=>
  rw[m] at hm;have X:=A0 m;have aP:=GL m;clear m;by_cases T:n<1
  ·have b:=A0 (Q5 (l:=l) (n:=n) (λh=>by omega));have d1:decide (n<1)=true:=by simpa using T
   go_enter func173,ntmps173;go_wp2_with fail;refine hm.mono ?_;rintro e M ⟨rfl,a⟩;go_wp2_with fail;refine A5 (results_tmp3 rfl _ _ _) rfl ?_;exact Oz b a
  by_cases ac:8<n
  ·have b:=A0 (Q5 (l:=l) (n:=n) (λh=>by omega));have d1:decide (n<1)=false:=by simpa using T
   have d2:decide (8<n)=true:=by simpa using ac
   go_enter func173,ntmps173;go_wp2_with fail;refine hm.mono ?_;rintro e M ⟨rfl,a⟩;go_wp2_with fail;refine A5 (results_tmp3 rfl _ _ _) rfl ?_;exact Oz b a
  have au:=A0 (ij (l:=l) (n:=n) ⟨X,by omega,by omega⟩);have Y:Hid (Iu l=CP l):=by unfold Hid Iu;rw[X.out];rfl
  have d1:decide (n<1)=false:=by simpa using T
  have d2:decide (8<n)=false:=by simpa using ac
  cases d:Cc l n with
  |false=>
   have b:=A0 d;have ad:EA (CP l) n<0:=by
    unfold Cc at d;rw[au.out] at d;simpa using d
   clear d;obtain⟨A,g⟩:∃A,EA (CP l) n=A:=⟨_,rfl⟩;rw[g] at ad;have N:=A0 g;have a2:decide (A<0)=true:=by simpa using ad
   clear g;go_enter func173,ntmps173;go_wp2_with fail;refine hm.mono ?_;rintro e M ⟨rfl,a⟩;have I:=Z _ a;have R:=A0 a;clear hm a;go_wp2_with fail;refine I.mono ?_;rintro e V ⟨aj,c2,rfl,x,D⟩;have O:=A0 (Cd R D);rw[Y.out] at x⊢;have hf:=Vv _ (CP l) n V x (by rw[Iv];omega);rw[Iv,N.out] at hf;rw[Iv];clear I D x;go_wp2_with fail;refine hf.mono ?_;rintro e W ⟨rfl,E⟩;have f:=A0 (Cd O E);clear E;go_wp2_with fail;refine A5 (results_tmp3 rfl _ _ _) rfl ?_;exact Oz b f
  |true=>
   obtain⟨_,_,_,A,a6,a7,_⟩:=Oe d;obtain⟨b,N⟩:=Hx2 d a7;have K:Hid (BN l n=EQ l ((A:Int),n,1,false)/\DG l n=(A:Int)):=by
    unfold Hid;have:=VU d;rw[a6] at this;exact this
   have a2:decide ((A:Int)<0)=false:=by simp
   clear d a6 a7;go_enter func173,ntmps173;go_wp2_with fail;refine hm.mono ?_;rintro e M ⟨rfl,a⟩;have I:=Z _ a;have R:=A0 a;clear hm a;go_wp2_with fail;refine I.mono ?_;rintro e V ⟨aj,c2,rfl,x,D⟩;have O:=A0 (Cd R D);rw[Y.out] at x⊢;have hf:=Vv _ (CP l) n V x (by rw[Iv];omega);rw[Iv,N.out] at hf;rw[Iv];clear I D x;go_wp2_with fail;refine hf.mono ?_;rintro e W ⟨rfl,E⟩;have f:=A0 (Cd O E);clear E hf;go_wp2_with fail;clear d1 d2 a2;go_loop [8] (λi=>∃k:Nat,k<=l.length/\i= .int .i64 k/\∀y∈l.take k,y.1<(A:Int)) (λi=>l.length-(intOf i).toNat)
   case atStart=>exact⟨0,A7 _,rfl,by simp⟩
   case round=>
    obtain⟨k,hk,rfl,a8⟩:=hrel;have a0:=A0 a8;clear a8;have L:∀(aa:∀h:k<l.length,¬l[k].1<(A:Int)),Hid (EQ l ((A:Int),n,1,false)=FO l k ((A:Int),n,1,false)):=λaa=>ii hk a0 aa;have a9:=af _ f (by omega);have a1:=A0 a9;clear a9;by_cases ab:k<l.length
    ·obtain⟨b0,off,ay,aq,an,a3,a4,a5⟩:=E6 (Aj ah f) ab;subst ay;have ai:=A0 (B1 ab);have Fin:Hid (¬l[k].1<(A:Int)->EQ l ((A:Int),n,1,false)=FO l k ((A:Int),n,1,false)):=λh=>(L (λ_=>h));have ao:(k:Int)<(l.length:Int):=by omega
     have g1:(0:Int)<=(k:Int):=by omega
     have al:decide ((k:Int)<(l.length:Int))=true:=by simpa using ao
     clear L;generalize l[k]=u at*;obtain⟨p,q,c,o⟩:=u;dsimp only at an a3 a4 a5 Fin;by_cases g:p<(A:Int)
     ·have b1:decide (p<(A:Int))=true:=by simpa using g
      have ag:Hid (∀y∈l.take (k+1),y.1<(A:Int)):=by
       unfold Hid;rw[ai.out];intro y hy;rcases GA.1 hy with hy|hy
       ·exact a0 y hy
       ·rw[B6.1 hy];exact g
      go_wp2_with fail;exact⟨⟨k+1,by omega,by go_num,ag⟩,by simp[intOf];omega⟩
     ·have b1:decide (p<(A:Int))=false:=by simpa using g
      have Q:=A0 (Fin g);clear aq a3 a4 a5;go_wp2_with fail;refine a1.mono ?_;rintro e z ⟨U,rfl,r,j⟩;have ax:=j.size;have H:=AM r;have B:=A0 (Cd f j);have G:=VP U l.length z.heap.size W.heap.size w.heap.size l ((A:Int),n,1,false) k (z.alloc (.cells #[(A:Int), n, .int .i64 1, .bool false] 47)) (r.alloc _) (HE z _) (λe=>by have:=H _ e;omega) hk (by omega) f.size (by simp;omega);clear r j H;go_wp2_with fail;refine G.mono ?_;rintro e aF ⟨aC,rfl,s,F⟩;have P:=A0 ((B.alloc B.size _).trans F);have t:=s;rw[<-Q.out] at t;obtain⟨ak,c5,rfl,_⟩:=Aw s;have C:=A0 (ED t);clear s t G F;go_wp2_with fail;refine A5 (results_tmp3 rfl _ _ _) rfl ?_;unfold Kd;have S:=C.out.2;rw[K.out.1,K.out.2,b.out,<-S];exact⟨_,_,rfl,C.out.1,P⟩
    ·obtain rfl:k=l.length:=by omega
     have Q:=L (λh=>absurd h (Nat.lt_irrefl _));have al:decide ((l.length:Int)<(l.length:Int))=false:=by simp
     clear L;go_wp2_with fail;refine a1.mono ?_;rintro e z ⟨U,rfl,r,j⟩;have ax:=j.size;have H:=AM r;have B:=A0 (Cd f j);have G:=VP U l.length z.heap.size W.heap.size w.heap.size l ((A:Int),n,1,false) l.length (z.alloc (.cells #[(A:Int), n, .int .i64 1, .bool false] 47)) (r.alloc _) (HE z _) (λe=>by have:=H _ e;omega) hk (by omega) f.size (by simp;omega);clear r j H;go_wp2_with fail;refine G.mono ?_;rintro e aF ⟨aC,rfl,s,F⟩;have P:=A0 ((B.alloc B.size _).trans F);have t:=s;rw[<-Q.out] at t;obtain⟨ak,c5,rfl,_⟩:=Aw s;have C:=A0 (ED t);clear s t G F;go_wp2_with fail;refine A5 (results_tmp3 rfl _ _ _) rfl ?_;unfold Kd;have S:=C.out.2;rw[K.out.1,K.out.2,b.out,<-S];exact⟨_,_,rfl,C.out.1,P⟩
def FP(ls:List (List Us))(n nt:Int):Option Nat:=(List.range ls.length).find? λi=>decide ((i:Int)≠nt)&&Cc (ls.getD i []) n
theorem il{ls:List (List Us)}{n nt:Int}{k:Nat}(hk:k<ls.length)(a:(k:Int)≠nt)(b:Cc ls[k] n=true)(hb:∀i,i<k->(decide ((i:Int)≠nt)&&Cc (ls.getD i []) n)=false):FP ls n nt=some k:=by
 refine Vn hk ?_ hb;rw[B9,Bl hk];simp[a,b]
theorem io{ls:List (List Us)}{n nt:Int}(hb:∀i,i<ls.length->(decide ((i:Int)≠nt)&&Cc (ls.getD i []) n)=false):FP ls n nt=none:=by
 unfold FP;rw[HS];intro i a;rw[hb i (by simpa using a)];simp
theorem ip{ls:List (List Us)}{n nt:Int}{k:Nat}(hk:k<ls.length)(b:(k:Int)=nt\/Cc ls[k] n=false)(hb:∀i,i<k->(decide ((i:Int)≠nt)&&Cc (ls.getD i []) n)=false):
 ∀i,i<k+1->(decide ((i:Int)≠nt)&&Cc (ls.getD i []) n)=false:=by
 intro i c;by_cases a:i<k
 ·exact hb i a
 ·obtain rfl:i=k:=by omega
  rw[B9,Bl hk];rcases b with h|h
  ·simp[h]
  ·simp[h]
theorem iq{ls:List (List Us)}{n nt:Int}{k:Nat}(h:FP ls n nt=some k):k<ls.length/\(k:Int)≠nt/\Cc (ls.getD k []) n=true:=by
 have h1:=W0 h;have h2:=List.find?_some h;simp only[HW] at h1;rw[Hz,E0] at h2;exact⟨h1,h2.1,h2.2⟩
def Fq(ls:List (List Us))(n nt:Int):List (List Us)×Int×Int×Bool:=
 if AN ls=true then(match FP ls n nt with|some i=>(ls.set i (BN (ls.getD i []) n),(i:Int),DG (ls.getD i []) n,true)|none=>([],0,0,false)) else([],0,0,false)
theorem ir{ls:List (List Us)}{n nt:Int}(h:AN ls=false):Fq ls n nt=([],0,0,false):=by unfold Fq;rw[h];rfl
theorem it{ls:List (List Us)}{n nt:Int}(h:FP ls n nt=none):Fq ls n nt=([],0,0,false):=by unfold Fq;rw[h];split<;>rfl
theorem VW{ls:List (List Us)}{n nt:Int}(hm:AN ls=true){k:Nat}(hk:k<ls.length)(h:FP ls n nt=some k):Fq ls n nt=(ls.set k (BN ls[k] n),(k:Int),DG ls[k] n,true):=by
 unfold Fq;rw[hm,h,A4 rfl];simp only[B9,Bl hk,D0]
abbrev Mm(ls:List (List Us))(n nt:Int)(w:World)(e:Ending)(w':World):Prop:=
 ∃a cap,e= .returned (.tuple #[.slice a (Fq ls n nt).1.length cap, .int .i64 (Fq ls n nt).2.1, .int .i64 (Fq ls n nt).2.2.1, .bool (Fq ls n nt).2.2.2])/\Be w' (.slice a (Fq ls n nt).1.length cap) (Fq ls n nt).1/\(∀b,(Value.slice a (Fq ls n nt).1.length cap).ownBlock=some b->w.heap.size<=b)/\Below w w w'
theorem iu(v:Value)(ls:List (List Us))(n nt:Int)(w:World)(m:Be w v ls)(hf:FN ls):
 Calls prog 85 #[v, n, nt] w λe w'=>Mm ls n nt w e w':=by
 have hc:=Ok v ls w m hf;have y:∀o,Below w w o->_:=λo hb=>VJ v ls o (DH m hb) hf;have O:=A0 m;obtain⟨R,a8⟩:=hf;obtain⟨X,a0,rfl,S,_⟩:=E8 m;clear m S;cases hm:AN ls with
 |false=>
  have g:=A0 (ir (n:=n) (nt:=nt) hm);rw[hm] at hc;clear y hm;go_enter func85,ntmps85;go_wp2_with fail;refine hc.mono ?_;rintro e o ⟨rfl,q⟩;go_wp2_with fail;refine A5 (v:= .tuple #[.slice none 0 0, .int .i64 0, .int .i64 0, .bool false]) (by simp[results,results85,go_sem]) rfl ?_;unfold Mm;rw[g.out];exact⟨none,0,rfl,Oj λ_=>rfl,nofun,q⟩
 |true=>
  rw[hm] at hc;obtain⟨J,P⟩:=Hx2 hm y;clear hm y;go_enter func85,ntmps85;go_wp2_with fail;refine hc.mono ?_;rintro e o ⟨rfl,q⟩;have D:=A0 q;clear hc q;go_wp2_with fail;go_loopw [21] (λi wr=>∃k:Nat,k<=ls.length/\i= .int .i64 k/\(∀i,i<k->(decide ((i:Int)≠nt)&&Cc (ls.getD i []) n)=false)/\Below w w wr) (λi _=>ls.length-(intOf i).toNat)
  case atStart=>exact⟨0,A7 _,rfl,λi aa=>by omega,D⟩
  case round=>
   clear D;obtain⟨k,hk,rfl,F,hb⟩:=hrel;obtain⟨s,h⟩:=Hx2 F hb;clear F hb;by_cases d:k<ls.length
   ·obtain⟨b,off,Y,a1,B,a4,a6,G⟩:=Gf (DH O h) d;subst B;have ab:=R _ (BA d);have hd:=ik _ _ n wr G (by omega);have a3:(k:Int)<(ls.length:Int):=by omega
    have g1:(0:Int)<=(k:Int):=by omega
    obtain⟨p,t⟩:=Hx2 (λa=>ip (n:=n) (nt:=nt) d a s) (λT c=>VW J d (il (n:=n) (nt:=nt) d T c s));clear G;by_cases a:(k:Int)=nt
    ·have b1:((k:Int)==nt)=true:=by simpa using a
     have u:=A0 (p (Or.inl a));clear a hd;go_wp2_with fail;exact⟨⟨k+1,by omega,by go_num,u,h⟩,by simp[intOf];omega⟩
    have b1:((k:Int)==nt)=false:=by simpa using a
    have K:=A0 a;clear a;cases c:Cc ls[k] n with
    |false=>
     have u:=A0 (p (Or.inr c));unfold Kd at hd;rw[c] at hd;clear p t c;go_wp2_with fail;refine hd.mono ?_;rintro e H ⟨Q,c2,rfl,r,l⟩;have f:=A0 (Cd h l);clear hd r l;go_wp2_with fail;exact⟨⟨k+1,by omega,by go_num,u,f⟩,by simp[intOf];omega⟩
    |true=>
     have g:=A0 (t K c);unfold Kd at hd;rw[c] at hd;clear p t c;generalize BN ls[k] n=ac at*;generalize DG ls[k] n=V at*;generalize ls[k].length=af at*;go_wp2_with fail;refine hd.mono ?_;rintro e H ⟨Q,c2,rfl,r,l⟩;obtain⟨f,M⟩:=Hx2 (Cd h l) r;have E:=P H f;clear hd r l;go_wp2_with fail;refine E.mono ?_;rintro e ad ⟨W,c3,rfl,A,z,x⟩;obtain⟨I,N⟩:=Hx2 (Cd f x) (Aj M x);obtain⟨j,C,Z,a2,B,a5,a7,_⟩:=Gf A d;subst B;have L:=A0 A;have U:w<=j:=A8 f.size (z j rfl).1;have a9:=(z j rfl).2 (C+k);clear E A z x;go_wp2_with fail;refine A5 (v:= .tuple #[.slice (some ⟨j,C,none⟩) ls.length c3, k, V, .bool true]) (by simp[results,results85,go_sem]) rfl ?_;unfold Mm;rw[g.out];exact⟨some ⟨j,C,none⟩,c3,by simp,by simpa using VH L d N,(λb hb=>by simp only[Value.ownBlock,Hs] at hb;omega),I.setCell U _⟩
   ·obtain rfl:k=ls.length:=by omega
    have g:=A0 (it (io s));go_wp2_with fail;refine A5 (v:= .tuple #[.slice none 0 0, .int .i64 0, .int .i64 0, .bool false]) (by simp[results,results85,go_sem]) rfl ?_;unfold Mm;rw[g.out];exact⟨none,0,rfl,Oj λ_=>rfl,nofun,h⟩
end Go.Proofs.YtmajkjjjfodhlaaGreatDoor
