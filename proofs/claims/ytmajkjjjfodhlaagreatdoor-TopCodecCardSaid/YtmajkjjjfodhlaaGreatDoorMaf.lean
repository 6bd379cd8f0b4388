/- Part Maf. No condition of its own. -/
import Derived.Test.YtmajkjjjfodhlaaGreatDoorMae
namespace Go.Proofs.YtmajkjjjfodhlaaGreatDoor
open Go.RowKit Tryz
set_option linter.all false
set_option maxRecDepth 100000
set_option maxHeartbeats 8000000
theorem C6:type_of%@List.length_replicate:=@List.length_replicate
theorem HQ:type_of%@List.getElem_of_mem:=@List.getElem_of_mem
theorem K2:type_of%@List.getElem_append_left:=@List.getElem_append_left
theorem K3:type_of%@List.getElem_append_right:=@List.getElem_append_right
theorem LV:type_of%@List.mem_append_right:=@List.mem_append_right
theorem N3:type_of%@List.getElem?_replicate:=@List.getElem?_replicate
theorem SV:type_of%@List.mem_append_left:=@List.mem_append_left
theorem S5:type_of%@Nat.mod_one:=@Nat.mod_one
theorem TQ{A:List HT}{n k:Nat}(h:¬2*k+2<n):∀i,0<i->i<n->AD i=k->Bv (Am A (2*k+1)) (Am A i):=λi h0 a hp=>by
 rcases P2 h0 hp with rfl|rfl
 ·exact LQ _
 ·omega
theorem NG{A:List HT}{n k c d:Nat}(a:(c=2*k+1/\d=2*k+2)\/(c=2*k+2/\d=2*k+1))(h:Bv (Am A c) (Am A d)):∀i,0<i->i<n->AD i=k->Bv (Am A c) (Am A i):=λi h0 _ hp=>by
 rcases P2 h0 hp with rfl|rfl<;>rcases a with⟨rfl,rfl⟩|⟨rfl,rfl⟩
 ·exact LQ _
 ·exact h
 ·exact h
 ·exact LQ _
theorem cd(B F:Nat)(A:List HT)(n:Nat)(w:World)(h:pD B F w A)(ai:A.length=n+1)(hl:A.length<=1000000)(a6:KM A n 0):
 Calls prog 292 #[NE F, .int .i64 0, n] w λe w'=>(∃b,e= .returned (.bool b))/\∃R,pD B F w' R/\R.Perm A/\FE R n/\Am R n=Am A n/\Kp B w w':=by
 obtain⟨H,a2⟩:=Hx2 h a6;clear h a6;go_enter func292,ntmps292;go_wp2_with fail;go_loopw [7] (λi wr=>∃(k:Nat) (a:List HT),i= .int .i64 k/\k<=n/\pD B F wr a/\a.Perm A/\KM a n k/\Am a n=Am A n/\Kp B w wr) (λi _=>n-(intOf i).toNat)
 case atStart=>exact⟨0,A,rfl,A7 _,H,List.Perm.refl _,a2,rfl,Kp.refl _ _⟩
 case round=>
  obtain⟨k,a,rfl,hk,a4,hp,a3,a9,a7⟩:=hrel;have ah:=hp.length_eq;obtain⟨C,z,X,Hlast,W⟩:=Hx5 hp a3 a7 a9 a4;clear hp a3 a7 a4 a9 H a2;have ag:(0:Int)<=2*(k:Int)+1:=by omega
  by_cases h1:2*k+1<n
  ·have a0:k<n:=by omega
   have g1:2*(k:Int)+1<(n:Int):=by omega
   have d1:decide ((n:Int)<=2*(k:Int)+1)=false:=by simp;omega
   have d2:decide (2*(k:Int)+1<0)=false:=by simp;omega
   obtain⟨v,aj,Y,U,hr⟩:=W.out;have Z:=Eu U;have m1:=LX F wr v Z;by_cases h2:2*k+2<n
   ·have g2:2*(k:Int)+1+1<(n:Int):=by omega
    have ad:decide (2*(k:Int)+1+1<(n:Int))=true:=by simp;omega
    have a1:=L6 Y U hr (2*k+2) (2*k+1) (by omega) (by omega) (by omega);rw[show(((2*k+2:Nat)):Int)=2*(k:Int)+1+1 by omega,show(((2*k+1:Nat)):Int)=2*(k:Int)+1 by omega] at a1;clear Y U hr Z;go_wp2_with fail;refine a1.mono ?_;rintro e I ⟨rfl,a5,a8⟩;obtain⟨T,S⟩:=Hx2 (X.trans a8) a5;clear a1 m1 a8 a5;cases V:D9 (Am a (2*k+2)) (Am a (2*k+1)) with
    |true=>
     have J:=A0 V;clear V;have K:2*k+2<n:=by omega
     obtain⟨O,aa,o,g,u⟩:=S.out;have q:=Eu g;have N:=LX F I O q;have l:=L6 o g u (2*k+2) k (by omega) (by omega) (by omega);rw[show(((2*k+2:Nat)):Int)=2*(k:Int)+1+1 by omega] at l;clear o g u q;go_wp2_with fail;refine l.mono ?_;rintro e Q ⟨rfl,s,t⟩;have m:=A0 (T.trans t);clear l N t;cases c:D9 (Am a (2*k+2)) (Am a k) with
     |false=>
      obtain⟨d,f⟩:=Hx2 c (show∀i,0<i->i<n->AD i=k->Bv (Am a (2*k+2)) (Am a i) from NG (Or.inr ⟨rfl,rfl⟩) (Nr J));clear c;go_wp2_with fail;go_ret;exact⟨⟨_,rfl⟩,a,s,C,Nz z (λi D G E=>KK d (f i D G E)),Hlast,m⟩
     |true=>
      obtain⟨d,f⟩:=Hx2 c (show∀i,0<i->i<n->AD i=k->Bv (Am a (2*k+2)) (Am a i) from NG (Or.inr ⟨rfl,rfl⟩) (Nr J));obtain⟨P,ab,p,j,x⟩:=s;have r:=Eu j;have m5:=LY F Q P r;have y:=LZ p j x k (2*k+2) (by omega) (by omega) (by omega);rw[show(((2*k+2:Nat)):Int)=2*(k:Int)+1+1 by omega] at y;clear c p j x r;go_wp2_with fail;refine y.mono ?_;rintro e ac ⟨rfl,L,M⟩;go_wp2_with fail;refine⟨⟨2*k+2,Et a k (2*k+2),by congr 1,by omega,L,(LW (by omega) (by omega)).trans C,P3 (by omega) a0 K (bF k) (by omega) z f d,?_,m.trans M⟩,by simp[intOf];omega⟩;rw[I8 (by omega) (by omega),A3 (by omega),A3 (by omega)];exact Hlast
    |false=>
     have J:=A0 V;clear V;have K:2*k+1<n:=by omega
     obtain⟨O,aa,o,g,u⟩:=S.out;have q:=Eu g;have N:=LX F I O q;have l:=L6 o g u (2*k+1) k (by omega) (by omega) (by omega);rw[show(((2*k+1:Nat)):Int)=2*(k:Int)+1 by omega] at l;clear o g u q;go_wp2_with fail;refine l.mono ?_;rintro e Q ⟨rfl,s,t⟩;have m:=A0 (T.trans t);clear l N t;cases c:D9 (Am a (2*k+1)) (Am a k) with
     |false=>
      obtain⟨d,f⟩:=Hx2 c (show∀i,0<i->i<n->AD i=k->Bv (Am a (2*k+1)) (Am a i) from NG (Or.inl ⟨rfl,rfl⟩) J);clear c;go_wp2_with fail;go_ret;exact⟨⟨_,rfl⟩,a,s,C,Nz z (λi D G E=>KK d (f i D G E)),Hlast,m⟩
     |true=>
      obtain⟨d,f⟩:=Hx2 c (show∀i,0<i->i<n->AD i=k->Bv (Am a (2*k+1)) (Am a i) from NG (Or.inl ⟨rfl,rfl⟩) J);obtain⟨P,ab,p,j,x⟩:=s;have r:=Eu j;have m5:=LY F Q P r;have y:=LZ p j x k (2*k+1) (by omega) (by omega) (by omega);rw[show(((2*k+1:Nat)):Int)=2*(k:Int)+1 by omega] at y;clear c p j x r;go_wp2_with fail;refine y.mono ?_;rintro e ac ⟨rfl,L,M⟩;go_wp2_with fail;refine⟨⟨2*k+1,Et a k (2*k+1),by congr 1,by omega,L,(LW (by omega) (by omega)).trans C,P3 (by omega) a0 K (TN k) (by omega) z f d,?_,m.trans M⟩,by simp[intOf];omega⟩;rw[I8 (by omega) (by omega),A3 (by omega),A3 (by omega)];exact Hlast
   ·have g2:¬(2*(k:Int)+1+1<(n:Int)):=by omega
    have ad:decide (2*(k:Int)+1+1<(n:Int))=false:=by simp;omega
    have T:=X;have S:=W;obtain⟨I,af⟩:∃I:World,I=wr:=⟨_,rfl⟩;subst af;clear Y U hr Z m1;have K:2*k+1<n:=by omega
    obtain⟨O,aa,o,g,u⟩:=S.out;have q:=Eu g;have N:=LX F I O q;have l:=L6 o g u (2*k+1) k (by omega) (by omega) (by omega);rw[show(((2*k+1:Nat)):Int)=2*(k:Int)+1 by omega] at l;clear o g u q;go_wp2_with fail;refine l.mono ?_;rintro e Q ⟨rfl,s,t⟩;have m:=A0 (T.trans t);clear l N t;cases c:D9 (Am a (2*k+1)) (Am a k) with
    |false=>
     obtain⟨d,f⟩:=Hx2 c (show∀i,0<i->i<n->AD i=k->Bv (Am a (2*k+1)) (Am a i) from TQ h2);clear c;go_wp2_with fail;go_ret;exact⟨⟨_,rfl⟩,a,s,C,Nz z (λi D G E=>KK d (f i D G E)),Hlast,m⟩
    |true=>
     obtain⟨d,f⟩:=Hx2 c (show∀i,0<i->i<n->AD i=k->Bv (Am a (2*k+1)) (Am a i) from TQ h2);obtain⟨P,ab,p,j,x⟩:=s;have r:=Eu j;have m5:=LY F Q P r;have y:=LZ p j x k (2*k+1) (by omega) (by omega) (by omega);rw[show(((2*k+1:Nat)):Int)=2*(k:Int)+1 by omega] at y;clear c p j x r;go_wp2_with fail;refine y.mono ?_;rintro e ac ⟨rfl,L,M⟩;go_wp2_with fail;refine⟨⟨2*k+1,Et a k (2*k+1),by congr 1,by omega,L,(LW (by omega) (by omega)).trans C,P3 (by omega) a0 K (TN k) (by omega) z f d,?_,m.trans M⟩,by simp[intOf];omega⟩;rw[I8 (by omega) (by omega),A3 (by omega),A3 (by omega)];exact Hlast
  ·have g1:(n:Int)<=2*(k:Int)+1:=by omega
   have d1:decide ((n:Int)<=2*(k:Int)+1)=true:=by simp;omega
   go_wp2_with fail;go_ret;exact⟨⟨_,rfl⟩,a,W,C,Nz z (λi D G E=>by rcases P2 D E with h|h<;>omega),Hlast,X⟩
theorem ce:(prog.info? 313).map (λi=>(i.zero,i.size,i.bytes))=some (some (.pointer none),1,8):=by kernel_rfl
theorem Qa(p:Nat)(w:World):(Instr.typeAssert (.iface 313 (Ay p)) 20 313 false).run prog w= .ok (Ay p) w:=by kernel_rfl
theorem cf{B F:Nat}{w a:World}{A:List HT}{v c:Value}{j:List Nat}{p:Nat}{t:HT}{o:Obj}(m:B<=F)(d:w.heap[F]?=some (.cells #[v] 311 (0,0)))(hr:EN B w v j A)(hrep:Cu w p t)
 (hown:a.ownsRow B 313 1 c (A.length+1) (j.map Ay++[Ay p]))(hg:(w.alloc o).grownBy a v.ownBlock):
 (a.heap[F]?=some (.cells #[v] 311 (0,0)))/\pD B F (a.setCell ⟨F,0,none⟩ c) (A++[t])/\Kp B w (a.setCell ⟨F,0,none⟩ c):=by
 have x:F<w.heap.size:=by
  rcases BZ F w.heap.size with q|q
  ·exact q
  ·rw[B8 q] at d;cases d
 have E:=NF hr d;have u:B<=w.heap.size:=by omega
 have f:a.heap[F]?=some (.cells #[v] 311 (0,0)):=by
  rw[hg.block F (by simp;omega) (λe=>E e.symm),H0 _ _ _ x];exact d
 have y:Below B w a:=((A2 B w).alloc u o).grown hg (by simp;omega) (λk hk=>Ah hr.1 k hk);have l:Kp B w a:=⟨y,λb cs I hb h1 h2=>by
  have z:b<w.heap.size:=by
   rcases BZ b w.heap.size with q|q
   ·exact q
   ·rw[B8 q] at hb;cases hb
  have C:some b≠v.ownBlock:=λe=>by
   obtain⟨⟨_,h⟩,_⟩:=hr;rcases h with⟨rfl,_⟩|⟨g,cap,cur,rfl,_,hc,_⟩
   ·cases e
   ·injection e with e;subst e;rw[hb] at hc;injection hc with hc;injection hc with _ hc _;exact h2 hc
  rw[hg.block b (by simp;omega) C,H0 _ _ _ z]⟩
 have H:(a.setCell ⟨F,0,none⟩ c).heap[F]?=some (.cells #[c] 311 (0,0)):=by
  rw[heap_setCell_same a F 0 _ _ c f];rfl
 have r:Kp B a (a.setCell ⟨F,0,none⟩ c):=⟨(A2 B a).setCell (p:=⟨F,0,none⟩) m c,λb cs I hb h1 h2=>by
  refine HG _ _ _ _ λe=>?_;have e:b=F:=e;subst e;rw[f] at hb;injection hb with hb;injection hb with _ hb _;exact h1 hb.symm⟩
 refine⟨f,⟨c,j++[p],m,H,?_⟩,l.trans r⟩;have s:EN B a c (j++[p]) (A++[t]):=by
  refine⟨by rw[A9,D1];exact hown,by simp[hr.2.1],λi h J=>?_⟩;have G:=hr.2.1;by_cases n:i<A.length
  ·rw[K2 (by omega),K2 n];exact F9 l (hr.2.2 i n (by omega))
  ·have:i=A.length:=by simp at h;omega
   subst this;rw[K3 (by omega),K3 (by omega)];simp only[G,Hr,H5];exact F9 l hrep
 refine NA s r λg D=>HG _ _ _ _ λe=>?_;have e:g=F:=e;subst e;exact NF s f D
theorem cn(B F:Nat)(A:List HT)(p:Nat)(t:HT)(w:World)(h:pD B F w A)(n:Cu w p t)(hl:A.length<1000000):
 Calls prog 426 #[.pointer (some ⟨F,0,none⟩), .iface 313 (Ay p)] w λe w'=>e= .returned (.tuple #[])/\pD B F w' (A++[t])/\Kp B w w':=by
 obtain⟨i0,G,I,J,K⟩:=BW ce;obtain⟨v,o,D,a,hr⟩:=h;have L:F<w.heap.size:=by
  rcases BZ F w.heap.size with q|q
  ·exact q
  ·rw[B8 q] at a;cases a
 have N:=Eu a;have P:=frozen_of_row w F 0 _ _ a;have Q:=Qa p;obtain⟨a0,c0,rfl,_⟩:=Aw hr.1;obtain⟨x,i,C,d⟩:=Hx4 a hr n D;clear a hr n;go_enter func426,ntmps426;go_wp2_with fail;have m:((w.alloc (.cells #[Ay p] 313)).drew).ownsRow B 313 1 (.slice a0 A.length c0) A.length (o.map Ay):=i.out.1.alloc _;obtain⟨HownD,HnewsD⟩:=Hx2 m (show∀j u,[Ay p][j]?=some u->((w.alloc (.cells #[Ay p] 313)).drew).cell? ((⟨w,0,none⟩:Addr).add j)=some u from Hx w (Ay p) 313);have HbaseD:Hid (B<=((w.alloc (.cells #[Ay p] 313)).drew).heap.size):=by unfold Hid;have:=d.out;simp;omega
 have s:Hid (A.length+1<=maxLen):=by unfold Hid;simp[maxLen];omega
 have y:Hid ((A.length+1)*8<=140737488355328):=by unfold Hid;omega
 have z:Hid (∀u∈[Ay p],u.oneCell'=true):=by unfold Hid;simp[Value.oneCell']
 clear m
 go_region_law ((refine step_append_lies _ (by rfl) _ _ 311 (by rfl) B 313 i0 (.pointer none) 1 8 underlying311 G I J K rfl (by decide) (.slice a0 A.length c0) A.length (o.map Ay) (by rfl) HownD ⟨w,0,none⟩ 1 1 [Ay p] (by rfl) rfl HnewsD z (by decide) s y HbaseD _ rfl ?_;intro g cap r l b E H;have k:(w.alloc (.cells #[Ay p] 313)).grownBy r (Value.slice a0 A.length c0).ownBlock:=⟨b.os,b.tape,b.output,b.size,b.block⟩;have c:=cf d x i C l k;have M:=Eu c.1;have O:=frozen_of_row r F 0 _ _ c.1;have f:=A0 c;clear l b k E H c))
 all_goals
  go_wp2_with fail
  go_end0
  exact⟨rfl,f.out.2.1,f.out.2.2⟩
theorem cA{w:World}{base e n m cap:Nat}{a:Option Addr}{cs:List Value}(h:w.ownsRow base e 1 (.slice a n cap) n cs)(hm:m<=n):w.ownsRow base e 1 (.slice a m cap) m (cs.take m):=by
 obtain⟨hl,h⟩:=h;refine⟨by rw[B5];omega,?_⟩;rcases h with⟨h,rfl⟩|⟨g,i,cur,f,b,hc,j,c,hs,d⟩
 ·obtain rfl:m=0:=by omega
  injection h with h1 h2 h3;subst h1 h3;exact Or.inl ⟨rfl,rfl⟩
 ·injection f with h1 _ h3;subst h1 h3;refine Or.inr ⟨g,cap,cur,rfl,b,hc,by omega,c,hs,?_⟩;rw[<-d,L4];congr 1;omega
theorem cB(B F:Nat)(A:List HT)(n:Nat)(w:World)(h:pD B F w A)(o:A.length=n+1)(hl:A.length<=1000000):
 Calls prog 425 #[.pointer (some ⟨F,0,none⟩)] w λe w'=>∃p,e= .returned (.iface 313 (Ay p))/\Cu w' p (Am A n)/\pD B F w' (A.take n)/\Kp B w w':=by
 obtain⟨v,s,k,a,hr⟩:=h;have D:=Eu a;have I:=frozen_of_row w F 0 _ _ a;obtain⟨g,cap,rfl,hc,_,l⟩:=NC hr (by omega);obtain⟨G,c1,_,t⟩:=l n (by omega);have c:Kp B w (w.setCell ⟨F,0,none⟩ (.slice (some ⟨g,0,none⟩) n cap)):=⟨(A2 B w).setCell (p:=⟨F,0,none⟩) k _,λb cs J hb h1 _=>by
  refine HG _ _ _ _ λe=>?_;have e:b=F:=e;subst e;rw[a] at hb;injection hb with hb;injection hb with _ hb _;exact h1 hb.symm⟩
 have r:(w.setCell ⟨F,0,none⟩ (.slice (some ⟨g,0,none⟩) n cap)).heap[F]?=some (.cells #[.slice (some ⟨g,0,none⟩) n cap] 311 (0,0)):=by
  rw[heap_setCell_same w F 0 _ _ _ a];rfl
 have E:g≠F:=λe=>NF hr a (by rw[<-e];rfl);have j:(A.take n).length=n:=by rw[B5];omega
 have q:EN B w (.slice (some ⟨g,0,none⟩) n cap) (s.take n) (A.take n):=by
  refine⟨?_,by rw[B5,B5,hr.2.1],λi h C=>?_⟩
  ·rw[j,List.map_take];have:=hr.1;rw[o] at this;exact cA this (by omega)
  ·rw[H9,H9];exact hr.2.2 i (by rw[j] at h;omega) (by rw[B5] at C;omega)
 have m:pD B F (w.setCell ⟨F,0,none⟩ (.slice (some ⟨g,0,none⟩) n cap)) (A.take n):=
  ⟨_,_,k,r,NA q c λz d=>HG _ _ _ _ λe=>by
    have e:z=F:=e;injection d with d;exact E (by rw[<-e,<-d])⟩
 have f:=F9 c t;rw[<-GG (by omega)] at f;obtain⟨u,x,y⟩:=Hx3 m c f;have H:(n:Int)<(A.length:Int):=by omega
 rw[o] at D hc;clear m c f q r j l a hr t;generalize s[n]=p at*;clear G;have K:(((n+1:Nat):Int) -1)=(n:Int):=by omega
 have g1:(n:Int)<((n+1:Nat):Int):=by omega
 have g2:(n:Int)<=(cap:Int):=by omega
 go_enter func425,ntmps425;go_wp2_with fail;go_ret;exact⟨p,rfl,y,u,x⟩
theorem TR(B F:Nat)(A:List HT)(p:Nat)(t:HT)(w:World)(h:pD B F w A)(l:Cu w p t)(hl:A.length<1000000)(j:FE A A.length):
 Calls prog 236 #[NE F, .iface 313 (Ay p)] w λe w'=>e= .returned (.tuple #[])/\∃a,pD B F w' a/\a.Perm (t::A)/\FE a a.length/\Kp B w w':=by
 obtain⟨H,q,m⟩:=Hx3 h l j;clear h l j;have m1:=λC=>bS ⟨F,0,none⟩ C;go_enter func236,ntmps236;go_wp2_with fail;refine(cn B F A p t w H q hl).mono ?_;rintro e f ⟨rfl,i,k⟩;obtain⟨n,o⟩:=Hx2 i k;obtain⟨v,D,r,g,hr⟩:=i;have b:=Eu g;have m2:=TP F f v b;have c:(A++[t]).length=A.length+1:=by simp
 obtain⟨a0,c0,rfl,_⟩:=Aw hr.1;have d:=ND _ (A++[t]).length f a0 c0 rfl;rw[c] at d;rw[c] at b m2;clear r g hr m1 k b;go_wp2_with fail;refine d.mono ?_;rintro e E ⟨rfl,rfl⟩;have z:=bZ B F (A++[t]) A.length f n (by simp) (by simp;omega) (by rw[c];exact bE m);have I:(((A.length+1:Nat):Int) -1)=(A.length:Int):=by omega
 clear d m2;go_wp2_with fail;refine z.mono ?_;rintro e G ⟨rfl,a,s,y,u,x⟩;go_wp2_with fail
 go_end0
 exact⟨rfl,a,s,y.trans (List.perm_append_comm (l₁:=A) (l₂:=[t])),u,o.trans x⟩
theorem TS{A:List HT}{n i:Nat}(a:i<n):Am (A.take n) i=Am A i:=by
 unfold Am;rw[HP a]
theorem TT(B F:Nat)(A:List HT)(n:Nat)(w:World)(h:pD B F w A)(d:A.length=n+1)(hl:A.length<=1000000)(D:FE A A.length):
 Calls prog 238 #[NE F] w λe w'=>∃p t c,e= .returned (.iface 313 (Ay p))/\Cu w' p t/\pD B F w' c/\(t::c).Perm A/\(∀x∈c,Bv t x)/\FE c c.length/\Kp B w w':=by
 obtain⟨H,r⟩:=Hx2 h D;obtain⟨v,a3,s,f,hr⟩:=h;have g:=Eu f;have m1:=TP F w v g;have m2:=LY F w v g;have q:=LZ s f hr 0 n (by omega) (by omega) hl;obtain⟨a0,c0,rfl,_⟩:=Aw hr.1;have m:=ND _ A.length w a0 c0 rfl;rw[d] at m m1 m2 q;have a6:(((n+1:Nat):Int) -1)=(n:Int):=by omega
 clear s f hr g D;go_enter func238,ntmps238;go_wp2_with fail;refine m.mono ?_;rintro e a4 ⟨rfl,rfl⟩;clear m1 m;go_wp2_with fail;refine q.mono ?_;rintro e a2 ⟨rfl,y,I⟩;have T:=A0 I;have u:=cd B F (Et A 0 n) n a2 y (by rw[KN];exact d) (by rw[KN];exact hl) (bH d (by have:=r.out;rwa [d] at this));clear q m2 I y;go_wp2_with fail;refine u.mono ?_;rintro e Q ⟨⟨b,rfl⟩,a,z,o,E,L,J⟩;have U:=A0 (T.trans J);have l:a.length=n+1:=by rw[o.length_eq,KN];exact d
 have a1:=bU ⟨F,0,none⟩ Q;have O:=cB B F a n Q z l (by omega);obtain⟨W,S⟩:=Hx2 (o.trans (LW (by omega) (by omega))) E;have Hlast:Hid (Am a n=Am A 0):=by
  unfold Hid;rw[L,I8 (by omega) (by omega),A4 rfl]
 have Hlen3:=A0 l;clear u z o E L J l;go_wp2_with fail;refine O.mono ?_;rintro e a5 ⟨p,rfl,P,C,K⟩;obtain⟨Hrep4,R,V⟩:=Hx3 P C (U.trans K);clear O a1 P C K;go_wp2_with fail;go_ret;have X:(a.take n).length=n:=by rw[B5,Hlen3.out];omega
 have N:(Am a n::a.take n).Perm A:=by
  have M:n<a.length:=by rw[Hlen3.out];omega
  have e:a=a.take n++[Am a n]:=by
   rw[GG M,<-B1 M,E2 (by rw[Hlen3.out];exact A1 _)]
  have h1:(Am a n::a.take n).Perm (a.take n++[Am a n]):=List.perm_append_comm (l₁:=[Am a n]) (l₂:=a.take n);rw[<-e] at h1;exact h1.trans W
 refine⟨p,_,_,rfl,Hrep4,R,N,λx Y=>?_,λi h0 k=>?_,V⟩
 ·rw[Hlast.out];have Z:=N.mem_iff.1 (G2 _ Y);obtain⟨j,G,rfl⟩:=HQ Z;rw[<-GG G];exact bG r j G
 ·rw[X] at k;have:=GF h0;rw[TS (by omega),TS k];exact S i h0 k
structure Km(B:Nat)(w w':World):Prop where
 below:Below B w w'
 keep:∀(b:Nat) (cs:Array Value) (t:TypeId),w.heap[b]?=some (Obj.cells cs t (0,0))→t≠3→w'.heap[b]?=w.heap[b]?
theorem cD{B:Nat}{w w':World}(h:Km B w w'):∀{t:HT} {p:Nat},Cu w p t->Cu w' p t:=by
 intro t;induction t with
 |leaf x n=>intro p hr;exact(h.keep p _ _ hr (by decide)).trans hr
 |node l e b c=>
  intro p hr;obtain⟨pl,d,a,hl,hr⟩:=hr;exact⟨pl,d,(h.keep p _ _ a (by decide)).trans a,b hl,c hr⟩
theorem Km.trans{B:Nat}{a b c:World}(h:Km B a b)(k:Km B b c):Km B a c:=
 ⟨h.below.trans k.below,λg cs t d h1=>by rw[k.keep g cs t (by rw[h.keep g cs t d h1];exact d) h1,h.keep g cs t d h1]⟩
abbrev DD(B:Nat)(w:World)(v:Value)(L:List Int):Prop:=w.ownsRow B 3 1 v L.length (L.map (Value.int .i64))
def JN:HT->Nat
 | .leaf _ _=>0
 | .node l a=>max (JN l) (JN a)+1
theorem cE(B:Nat)(t:HT):∀(p d:Nat) (v:Value) (L:List Int) (w:World),Cu w p t->DD B w v L->(∀s∈At t,s<L.length)->L.length<=1000000->d+JN t<=1000000->
 Calls prog 239 #[Ay p, d,v] w λe w'=>e= .returned (.tuple #[])/\DD B w' v (BD t d L)/\Km B w w':=by
 induction t with
 |leaf x n=>
  intro p d v L w f a hs hl hd;have K:n<L.length:=hs n (by simp[At]);have c2:w.cell? ⟨p,2,none⟩=some (.pointer none):=by rw[IT w p 2 _ _ (0,0) f];rfl
  have c1:w.cell? ⟨p,1,none⟩=some (.int .i64 n):=by rw[IT w p 1 _ _ (0,0) f];rfl
  obtain⟨g,cap,rfl,G,_⟩:=a.form (by omega);have S:w.cell? ⟨g,n,none⟩=some (.int .i64 L[n]):=by
   rw[a.cellAt n (by omega),Hp,Bl K];rfl
  have T:=a.frozenAt n;have o:=(a.stored n (.int .i64 (d:Int))).1;rw[<-I3] at o;have F:=A0 o;have I:∃cur,w.heap[g]?=some (.cells cur 3 (0,0)):=by
   obtain⟨_,h⟩:=a;rcases h with⟨h,_⟩|⟨U,R,cur,c,_,H,_⟩
   ·cases h
   ·injection c with c _ _;injection c with c;injection c with c;subst c;exact⟨cur,H⟩
  obtain⟨cur,q⟩:=I;have r:Km B w (w.setCell ⟨g,n,none⟩ (.int .i64 (d:Int))):=⟨(A2 B w).setCell (p:=⟨g,n,none⟩) G _,λb cs X hb h1=>by
   refine HG _ _ _ _ λe=>?_;have e:b=g:=e;subst e;rw[q] at hb;injection hb with hb;injection hb with _ hb _;exact h1 hb.symm⟩
  have A:=A0 r;have V:(n:Int)<(L.length:Int):=by omega
  have g1:(0:Int)<=(n:Int):=by omega
  clear o r a q f hs;go_enter func239,ntmps239;go_wp2_with fail;first|go_end0|refine A5 (results_none rfl _ _ _) rfl ?_
  exact⟨rfl,by show DD B _ _ (L.set n d);unfold DD;rw[Di];exact F,A⟩
 |node l W N O=>
  intro p d v L w f a hs hl hd;obtain⟨pl,i,k,u,z⟩:=f;have c2:w.cell? ⟨p,2,none⟩=some (Ay pl):=by rw[IT w p 2 _ _ (0,0) k];rfl
  have c3:w.cell? ⟨p,3,none⟩=some (Ay i):=by rw[IT w p 3 _ _ (0,0) k];rfl
  rw[JN] at hd;have i0:∀j,(Instr.index 314 (.agg #[Ay pl,Ay i]) (.int .i64 0)).run prog j= .ok (Ay pl) j:=λ_=>by kernel_rfl
  have i1:∀j,(Instr.index 314 (.agg #[Ay pl,Ay i]) (.int .i64 1)).run prog j= .ok (Ay i) j:=λ_=>by kernel_rfl
  have h1:=N pl (d+1) v L w u a (λs h=>hs s (by rw[At];exact SV _ h)) hl (by omega);obtain⟨Q,D,E⟩:=Hx3 a z hs;clear a z u k hs;go_enter func239,ntmps239;go_wp2_with fail;refine wp_loop_rounds 3 ?_;rw[rounds_succ];go_wp2_with fail;refine h1.mono ?_;rintro e P ⟨rfl,y,m⟩;have C:=A0 m;have h2:=O i (d+1) v (BD l (d+1:Nat) L) P (cD m D) y (λs h=>by rw[I6];exact E s (by rw[At];exact LV _ h)) (by rw[I6];exact hl) (by omega);clear h1 y m;go_wp2_with fail;rw[rounds_succ];go_wp2_with fail;refine h2.mono ?_;rintro e Y ⟨rfl,M,J⟩;go_wp2_with fail;rw[rounds_succ];go_wp2_with fail
  go_end0
  exact⟨rfl,M,C.trans J⟩
theorem cG(t:HT):JN t+1<=(At t).length:=by
 induction t with
 |leaf w n=>simp[JN,At]
 |node l c a b=>rw[JN,At,A9];omega
def Ev(F:List HT):Int:=(F.map wt).sum
theorem Ga(t:HT)(F:List HT):Ev (t::F)=wt t+Ev F:=by simp[Ev]
theorem Qb{F a:List HT}(h:F.Perm a):Ev F=Ev a:=by
 induction h with
 |nil=>rfl
 |cons x _ b=>rw[Ga,Ga,b]
 |swap x y l=>rw[Ga,Ga,Ga,Ga];omega
 |trans _ _ c d=>exact c.trans d
theorem TU(w:World)(e size:Nat):(w.alloc (.cells #[] e)).ownsRow w.heap.size e size (.slice (some ⟨w,0,none⟩) 0 0) 0 []:=
 ⟨by simp,Or.inr ⟨w,0,#[],rfl,A1 _,HE w _,A1 _,by simp[maxLen],by simp,by simp⟩⟩
def I9(F:List HT):Prop:=∀t∈F,0<wt t
theorem Qc{F a:List HT}(h:F.Perm a)(hp:I9 F):I9 a:=λt b=>hp t (h.mem_iff.2 b)
theorem cH{F:List HT}(h:I9 F):0<=Ev F:=by
 induction F with
 |nil=>exact E4 _
 |cons t F b=>
  have:=h t (Hh ..);have:=b λx a=>h x (G2 _ a);rw[Ga];omega
theorem cI(f:List Int):I9 (BT f):=λt a=>by
 obtain⟨i,_,h,rfl⟩:=In.1 a;exact h
theorem cJ(f:List Int){m:Int}(hm:0<=m)(hf:∀x∈f,x<=m):∀k,k<=f.length->Ev (Dv f k)<=m*k:=by
 intro k;induction k with
 |zero=>intro _;rw[TE];simp[Ev]
 |succ k b=>
  intro hk;have a:k<f.length:=by omega
  have h1:=b (by omega);have e:m*((k+1:Nat):Int)=m*k+m:=by rw[show((k+1:Nat):Int)=(k:Int)+1 by omega,Int.mul_add,Int.mul_one]
  by_cases h:0<f[k]
  ·have h2:=hf f[k] (BA a);rw[PT a h,e];have:Ev (Dv f k++[.leaf f[k] k])=Ev (Dv f k)+f[k]:=by simp[Ev,wt,List.sum_append]
   rw[this];omega
  ·rw[PU a h,e];omega
theorem NH{B:Nat}{w:World}(a:B<=w.heap.size)(o:Obj):Kp B w (w.alloc o):=(Kp.refl B w).alloc a o
theorem cN{B F:Nat}{w:World}{A:List HT}(h:pD B F w A):F<w.heap.size:=by
 obtain⟨v,b,_,a,_⟩:=h;rcases BZ F w.heap.size with q|q
 ·exact q
 ·rw[B8 q] at a;cases a
theorem TW{B F:Nat}{w:World}{A:List HT}(h:pD B F w A)(o:Obj):pD B F (w.alloc o) A:=by
 have d:=cN h;obtain⟨v,e,a,b,hr⟩:=h;refine⟨v,e,a,by rw[H0 _ _ _ d];exact b,NA hr (NH (by omega) o) λg c=>H0 _ _ _ (hr.1.lt g c).2⟩
theorem Ja{w:World}{p:Nat}{t:HT}(h:Cu w p t)(o:Obj):Cu (w.alloc o) p t:=F9 (NH (A7 _) o) h
theorem cO(w:World)(x:Int)(n:Nat):Cu (w.alloc (.cells #[x, n, .pointer none, .pointer none] 316)) w.heap.size (.leaf x n):=HE w _
theorem cQ{w:World}{p q:Nat}{a b:HT}(hp:Cu w p a)(c:Cu w q b):Cu (w.alloc (.cells #[.int .i64 (wt a+wt b), .int .i64 (min (nm a) (nm b):Nat),Ay p,Ay q] 316)) w.heap.size (.node a b):=
 ⟨p,q,HE w _,Ja hp _,Ja c _⟩
theorem cR(a b:HT)(R:List HT):Ev (.node a b::R)=Ev (a::b::R):=by
 rw[Ga,Ga,Ga,wt];omega
theorem TX{w:World}{p:Nat}{t:HT}(h:Cu w p t):p<w.heap.size:=by
 rcases BZ p w.heap.size with q|q
 ·exact q
 ·cases t with
  |leaf x n=>have h:w.heap[p]?=_:=h;rw[B8 q] at h;cases h
  |node l a=>obtain⟨_,_,h,_⟩:=h;rw[B8 q] at h;cases h
theorem Qd{w:World}{p q:Nat}{a b:HT}(h:Cu w p a)(k:Cu w q b):w.cell? ⟨p,0,none⟩=some (.int .i64 (wt a))/\w.cell? ⟨p,1,none⟩=some (.int .i64 (nm a))/\w.cell? ⟨q,0,none⟩=some (.int .i64 (wt b))/\w.cell? ⟨q,1,none⟩=some (.int .i64 (nm b)):=
 ⟨(Ip h).1,(Ip h).2,(Ip k).1,(Ip k).2⟩
theorem cW{B F:Nat}{w:World}{A:List HT}(h:pD B F w A):pD B F w.drew A:=bI h 1
theorem JO{w:World}{p:Nat}{t:HT}(h:Cu w p t):Cu w.drew p t:=F9 ((Kp.refl 0 w).drewN 1) h
theorem TY{B B':Nat}{w w':World}{v:Value}{L:List Int}(h:DD B w v L)(hk:Kp B' w w'):DD B w' v L:=by
 obtain⟨hl,h⟩:=h;refine⟨hl,?_⟩;rcases h with h|⟨g,cap,cur,rfl,a,hc,rest⟩
 ·exact Or.inl h
 ·exact Or.inr ⟨g,cap,cur,rfl,a,(hk.keep g _ _ hc (by decide) (by decide)).trans hc,rest⟩
theorem NI:(prog.info? 3).map (λi=>(i.zero,i.size,i.bytes))=some (some (.int .i64 0),1,8):=by kernel_rfl
theorem Qe(n:Nat):(madeCells #[Value.int .i64 0] n).toList=(List.replicate n (0:Int)).map (Value.int .i64):=by
 apply Hf
 ·simp[madeCells]
 ·intro i h1 h2;simp[madeCells,S5]
def TZ:Option Value->Nat
 |some (.slice _ n _)=>n
 |_=>0
theorem T5{B F:Nat}{w:World}{A:List HT}(h:pD B F w A):TZ (w.cell? ⟨F,0,none⟩)=A.length:=by
 obtain⟨v,d,_,b,hr⟩:=h;obtain⟨a,c,rfl,_⟩:=Aw hr.1;rw[Eu b];rfl
theorem T7{B F:Nat}{w:World}{A:List HT}(h:pD B F w A):∃a c,w.cell? ⟨F,0,none⟩=some (.slice a A.length c):=by
 obtain⟨v,d,_,b,hr⟩:=h;obtain⟨a,c,rfl,_⟩:=Aw hr.1;exact⟨a,c,Eu b⟩
theorem T8{B F:Nat}{w:World}{A:List HT}(h:pD B F w A)(hp:0<A.length):∃g c p,w.cell? ⟨F,0,none⟩=some (.slice (some ⟨g,0,none⟩) A.length c)/\w.cell? ⟨g,0,none⟩=some (Ay p)/\Cu w p A[0]:=by
 obtain⟨v,e,_,a,hr⟩:=h;obtain⟨g,cap,rfl,_,_,hc⟩:=NC hr hp;obtain⟨d,c0,_,b⟩:=hc 0 hp;exact⟨g,cap,_,Eu a,c0,b⟩
theorem cY{P:Program}{c:Code}{Q:Exit->Act->World->Prop}{a:Act}{w:World}(h:∀b,Hid (b=Q)->c.wp P b a w):c.wp P Q a w:=h Q rfl
theorem cZ(v:Value)(f:List Int)(w:World)(bR:Av w v 1 (λx=>[.int .i64 x]) f)(hl:f.length<=1000)(hf:∀x∈f,x<=1000000):
 Calls prog 165 #[v] w λe w'=>∃bV L,e= .returned bV/\DD w.heap.size w' bV L/\Io f L/\Below w w w':=by
 obtain⟨i0,cP,dk,dn,ds⟩:=BW NI;have c8:=A0 bR;obtain⟨e1,e2,rfl,ec,d3,cF⟩:=bR;clear cF d3;go_enter func165,ntmps165;go_wp2_with (first
  |(at_make;refine HZ _ rfl _ _ 73 rfl w.heap.size 3 i0 (.int .i64 0) 1 underlying73 cP dk dn .i64 .i64 _ _ f.length rfl rfl rfl rfl (by rw[ds];omega) (by simp[maxLen];omega) (A1 _) ?_
    intro a a3 b7;have b2:=(A2 w.heap.size w).grown b7 (A1 _) (λk hk=>by cases hk);have d5:w<a.heap.size:=AM a3 _ rfl;have Hown1:Hid (DD w.heap.size a (.slice (some ⟨w,0,none⟩) f.length f.length) (List.replicate f.length 0)):=by
     unfold Hid DD;rw[C6,<-Qe];rw[J0] at a3;exact a3
    have aL:=A0 b2;clear a3 b7 b2)
  |fail)
 have aX:pD w.heap.size (a+1) ((a.alloc (.cells #[] 313)).alloc (.cells #[.slice (some ⟨a,0,none⟩) 0 0] 311)) []:=by
  refine⟨.slice (some ⟨a,0,none⟩) 0 0,[],by omega,?_,?_⟩
  ·have h:=HE (a.alloc (.cells #[] 313)) (.cells #[.slice (some ⟨a,0,none⟩) 0 0] 311);have e:(a.alloc (.cells #[] 313)).heap.size=a.heap.size+1:=by simp
   rw[e] at h;exact h
  ·exact⟨CI ((TU a 313 1).alloc _) (by omega),rfl,λi h=>by simp at h⟩
 have b0:DD w.heap.size ((a.alloc (.cells #[] 313)).alloc (.cells #[.slice (some ⟨a,0,none⟩) 0 0] 311)) (.slice (some ⟨w,0,none⟩) f.length f.length) (List.replicate f.length 0):=(Hown1.alloc _).alloc _;have aU:Below w w ((a.alloc (.cells #[] 313)).alloc (.cells #[.slice (some ⟨a,0,none⟩) 0 0] 311)):=(aL.alloc (by omega) _).alloc (by simp;omega) _;have ay:w<=((a.alloc (.cells #[] 313)).alloc (.cells #[.slice (some ⟨a,0,none⟩) 0 0] 311)).heap.size:=by simp;omega
 obtain⟨ab,aK,aa⟩:=Hx3 aX b0 aU;clear aX b0 aU Hown1 aL;generalize (a.alloc (.cells #[] 313)).alloc (.cells #[.slice (some ⟨a,0,none⟩) 0 0] 311)=bX at*;obtain⟨F,aV⟩:∃F,F=a.heap.size+1:=⟨_,rfl⟩;rw[<-aV] at ab⊢;have e9:w<=F:=by omega
 clear aV d5;have d6:=cJ f (m:=1000000) (by omega) hf f.length (A1 _);go_loopw [16] (λi wr=>∃(k:Nat) (A:List HT),i= .int .i64 k/\k<=f.length/\pD w.heap.size F wr A/\A.Perm (Dv f k)/\FE A A.length/\Kp w.heap.size bX wr) (λi _=>f.length-(intOf i).toNat)
 case atStart=>exact⟨0,[],rfl,A7 _,ab,List.Perm.refl _,λi _ h=>by simp at h,Kp.refl _ _⟩
 case round=>
  obtain⟨k,A,rfl,hk,H,hp,O,P⟩:=hrel;obtain⟨r,d,E,b⟩:=Hx4 H hp O P;have bp:=TF f k;have cy:A.length<=k:=by rw[hp.length_eq];exact bp
  clear H hp O P ab bp;by_cases a2:k<f.length
  ·rcases Da c8 with⟨rfl,_⟩|⟨_,aj,aF,e3,dc,_,Z,aT⟩
   ·simp at a2
   injection dc with q1 q2 q3;subst q1 q3;have cz:=B3 Z ay;have e4:wr.cell? ⟨aj,aF+k,none⟩=some (.int .i64 f[k]):=by
    rw[b.out.below.cell (p:=⟨aj,aF+k,none⟩) Z,aa.out.cell (p:=⟨aj,aF+k,none⟩) Z];exact aT k a2
   have cx:(k:Int)<(f.length:Int):=by omega
   have g1:(0:Int)<=(k:Int):=by omega
   obtain⟨cr,cm,ai⟩:=Hx3 (λh=>PT (f:=f) a2 h) (λh=>PU (f:=f) a2 h) (A8 ay b.below.size);clear aT q2 Z cz;generalize f[k]=x at*;by_cases z:0<x
   ·have Q:=TR w.heap.size F A wr.heap.size (.leaf x k) _ (TW r (.cells #[x, k, .pointer none, .pointer none] 316)) (cO wr x k) (by omega) E;go_wp2_with fail;refine Q.mono ?_;rintro e D ⟨rfl,c2,cK,d4,cL,cV⟩;go_wp2_with fail;refine⟨⟨k+1,c2,by go_num,by omega,cK,?_,cL,b.trans ((NH ai _).trans cV)⟩,by simp[intOf];omega⟩;rw[cr.out z];exact d4.trans ((d.cons _).trans (List.perm_append_comm (l₁:=[HT.leaf x k]) (l₂:=Dv f k)))
   ·go_wp2_with fail;exact⟨⟨k+1,A,by go_num,by omega,r,by rw[cm.out z];exact d,E,b⟩,by simp[intOf];omega⟩
  ·obtain rfl:k=f.length:=by omega
   rw[Nt] at d;obtain⟨N,C,u⟩:=T7 r;have l:=ND (.slice N A.length C) A.length wr N C rfl;obtain⟨ac,J⟩:=Hx2 (TY aK b) (aa.trans b.below);by_cases h0:A.length=0
   ·have Y:A=[]:=FA.1 h0;have bc:BT f=[]:=by have:=d.out;rw[Y] at this;exact List.nil_perm.1 this
    have cb:=A0 bc;rw[h0] at u l;clear Y bc;go_wp2_with fail;refine l.mono ?_;rintro e D ⟨rfl,rfl⟩;go_wp2_with fail;go_ret;exact⟨_,_,rfl,ac,Or.inl ⟨cb,rfl⟩,J⟩
   ·obtain⟨g,c,p,B,b3,I⟩:=T8 r (by omega);rw[u] at B;injection B with B;injection B with q1 _ q3;subst q1 q3;by_cases h1:A.length=1
    ·obtain⟨t,Y⟩:∃t,A=[t]:=List.length_eq_one_iff.1 h1;subst Y;have an:BT f=[t]:=W4.1 d.symm;obtain⟨j,cS,cT,rfl⟩:=In.1 (show t∈BT f by rw[an];exact B6.2 rfl);have cc:=A0 an;have bu:=(Ip I).2
     replace bu:wr.cell? ⟨p,1,none⟩=some (.int .i64 (j:Nat)):=bu
     have y:=ac.out;have e5:wr.cell? ⟨w,j,none⟩=some (.int .i64 0):=by
      unfold DD at y;rw[C6] at y;rw[y.cellAt j (by omega),Hp,N3,A4 cS];rfl
     have e6:wr.frozen? ⟨w,j,none⟩=false:=by
      unfold DD at y;rw[C6] at y;exact y.frozenAt j
     have bO:DD w.heap.size (wr.setCell ⟨w,j,none⟩ (.int .i64 1)) (.slice (some ⟨w,0,none⟩) f.length f.length) ((List.replicate f.length 0).set j 1):=by
      unfold DD at y⊢;rw[C6] at y;rw[Di,C6,I3];exact(y.stored j (.int .i64 1)).1
     obtain⟨cq,c9⟩:=Hx2 bO (J.setCell (p:=⟨w,j,none⟩) (A1 _) (.int .i64 1));have cx:(j:Int)<(f.length:Int):=by omega
     have g1:(0:Int)<=(j:Int):=by omega
     have cC:wr.cell? ⟨F,0,none⟩=some (.slice (some ⟨g,0,none⟩) 1 C):=u;have a1:=l;clear bO y an I cT u;go_wp2_with fail;refine l.mono ?_;rintro e D ⟨rfl,rfl⟩;go_wp2_with fail;refine a1.mono ?_;rintro e D ⟨rfl,rfl⟩;go_wp2_with fail;go_ret;exact⟨_,_,rfl,cq,Or.inr (Or.inl ⟨_,_,cc,rfl⟩),c9⟩
    ·have h2:2<=A.length:=by omega
     have a1:=l;obtain⟨M,W⟩:=Hx2 (Nu d) (Qc d.symm (cI f));have X:Hid (Ev A<=1000000000):=by
      unfold Hid;rw[Qb d.out,<-Nt];omega
     have c4:Hid (2<=(BT f).length):=by unfold Hid;rw[<-d.out.length_eq];exact h2
     have cs:((A.length:Int)==0)=false:=by simpa using h0
     have d1:((A.length:Int)==1)=false:=by simp;omega
     clear I b3;go_wp2_with fail;refine l.mono ?_;rintro e D ⟨rfl,rfl⟩;go_wp2_with fail;refine a1.mono ?_;rintro e D ⟨rfl,rfl⟩;clear l a1 u;go_wp2_with fail;have K:Hid (∀T,Er A T->Er (BT f) T):=λT h=>TD h d.symm;have b1:A.length<=1000:=by omega
     clear cs d1 cy d6;obtain⟨c1,dd⟩:∃c1:World,c1=wr:=⟨_,rfl⟩;subst dd;go_loopw [7] (λ_ wr=>∃A:List HT,1<=A.length/\A.length<=1000/\pD w.heap.size F wr A/\FE A A.length/\(∀T,Er A T->Er (BT f) T)/\(A.flatMap At).Perm ((BT f).flatMap At)/\I9 A/\Ev A<=1000000000/\Kp w.heap.size bX wr) (λ_ wr=>TZ (wr.cell? ⟨F,0,none⟩))
     case atStart=>exact⟨A,by omega,b1,r,E,K,M,W,X,b⟩
     case round=>
      clear r d E b ac J M W X K h0 h1 h2 b1;obtain⟨q,e7,e8,H,O,bM,bP,bK,bT,P⟩:=hrel;obtain⟨r,E,b,K,M,W,X⟩:=Hx7 H O P bM bP bK bT;obtain⟨N,C,u⟩:=T7 H;have l:=ND (.slice N q.length C) q.length wr N C rfl;clear H O bM bP bK bT P;by_cases h2:2<=q.length
      ·have g1:(1:Int)<(q.length:Int):=by omega
       obtain⟨n,aq⟩:∃n,q.length=n+1:=⟨q.length-1,by omega⟩;have bw:=TT w.heap.size F q n wr r aq (by omega) E;have G:=A0 aq;clear aq;go_wp2_with fail;refine l.mono ?_;rintro e D ⟨rfl,rfl⟩;clear l u;go_wp2_with fail;refine bw.mono ?_;rintro e c0 ⟨a6,t1,a8,rfl,bL,b4,ar,bq,b8,bl⟩;have ea:=Qa a6;have ag:Hid (a8.length=n):=by show a8.length=n;have:=ar.length_eq;have:=G.out;simp at*;omega
       obtain⟨m,rfl⟩:∃m,n=m+1:=⟨n-1,by have:=G.out;omega⟩;have bx:=TT w.heap.size F a8 m c0 b4 ag (by have:=ag.out;have:=G.out;omega) b8;obtain⟨cp,co,ci,cg⟩:=Hx4 bL ar bq (b.trans bl);clear bw bL b4 ar bq b8 bl;go_wp2_with fail;refine bx.mono ?_;rintro e dT ⟨a7,t2,o,rfl,S,b5,a4,bs,b9,ao⟩;have eb:=Qa a7;have ah:Hid (o.length=m):=by show o.length=m;have:=a4.length_eq;have:=ag.out;simp at*;omega
       have R:=F9 ao cp;have V:Hid (q.Perm (t1::t2::o)):=co.symm.trans (a4.symm.cons t1);have cj:Hid (∀x∈t2::o,Bv t1 x):=λx z=>ci x (a4.mem_iff.1 z);obtain⟨ck,aP⟩:=Hx2 bs (cg.trans ao);have aC:Ev (t1::t2::o)<=1000000000:=by rw[<-Qb V.out];exact X
       have a5:I9 (t1::t2::o):=Qc V W;have av:I9 o:=λx z=>a5 x (G2 _ (G2 _ z));have d2:=cH av;have em:=a5 t1 (Hh ..);have es:=a5 t2 (G2 _ (Hh ..));have et:wt t1+wt t2<=1000000000:=by rw[Ga,Ga] at aC;omega
       have eA:IntKind.i64.wrap (wt t1+wt t2)=wt t1+wt t2:=C0 _ (by omega);have eg:=TX R;have ek:=TX S;obtain⟨ad,af⟩:=Hx2 R S;obtain⟨ct,cu⟩:=Ip R;obtain⟨cv,cw⟩:=Ip S;have Q:=TR w.heap.size F o dT.heap.size (.node t1 t2) _ (cW (TW b5 (.cells #[.int .i64 (wt t1+wt t2), .int .i64 (min (nm t1) (nm t2):Nat),Ay a6,Ay a7] 316))) (JO (cQ R S)) (by have:=ah.out;have:=G.out;omega) b9;rcases(show(min (nm t1) (nm t2)=nm t2/\nm t2<nm t1)\/(min (nm t1) (nm t2)=nm t1/\¬nm t2<nm t1) by omega) with⟨ap,d0⟩|⟨ap,d0⟩;all_goals
        rw[ap] at Q;clear ap;obtain⟨Hpush,ai⟩:=Hx2 Q (A8 ay aP.below.size);have c5:Hid (Ev (.node t1 t2::o)<=1000000000):=by unfold Hid;rw[cR];exact aC
        have c6:Hid (I9 (.node t1 t2::o)):=λx z=>by
         rcases Dn.1 z with rfl|z
         ·show 0<wt t1+wt t2;omega
         ·exact av x z
        clear bx S b5 a4 bs b9 ao R aC a5 av d2 Q;go_wp2_with fail;refine cY λe0 c7=>?_;go_region_held3 (λw'=>w'.cell? ⟨a6,0,none⟩=some (.int .i64 (wt t1))/\w'.cell? ⟨a6,1,none⟩=some (.int .i64 (nm t1))/\w'.cell? ⟨a7,0,none⟩=some (.int .i64 (wt t2))/\w'.cell? ⟨a7,1,none⟩=some (.int .i64 (nm t2))) (first|exact⟨ct,cu,cv,cw⟩|exact Qd (JO (Ja ad _)) (JO (Ja af _))|exact Qd (Ja (JO ad) _) (Ja (JO af) _)|exact Qd (F9 a0 (JO (Ja ad _))) (F9 a0 (JO (Ja af _)))) (first|(go_at_call 236;refine Hpush.mono ?_;rintro e ey ⟨rfl,c3,b6,au,bb,a0⟩))
        all_goals
         rw[c7.out];have ak:=au.length_eq;simp only[BV] at ak;obtain⟨aM,U,ca,ch,a9⟩:=Hx5 b6 au bb a0 ak;clear b6 au bb a0 ak;go_wp2_with fail;refine⟨⟨c3,by have:=a9.out;omega,by have:=a9.out;have:=ah.out;have:=G.out;omega,aM,ca,λT al=>K T (.step V cj ck (TD al U.symm)),?_,Qc U.symm c6,by rw[Qb U.out];exact c5,aP.trans (((NH ai _).drewN 1).trans ch)⟩,?_⟩
         ·have h:=Nu U;rw[TH] at h;exact h.trans ((Nu V).symm.trans M)
         ·rw[T5 aM.out,T5 r.out];have:=a9.out;have:=ah.out;have:=G.out;omega
      ·have g1:¬(1:Int)<(q.length:Int):=by omega
       obtain⟨T,al⟩:∃T,q=[T]:=List.length_eq_one_iff.1 (by omega);subst al;obtain⟨g,c,p,B,b3,I⟩:=T8 r (by simp);rw[u] at B;injection B with B;injection B with q1 _ q3;subst q1 q3;have ax:(At T).Perm ((BT f).flatMap At):=by have:=M.out;simpa using this
       have bN:∀s∈At T,s<f.length:=λs hs=>(PV f).2 s (ax.mem_iff.1 hs);have cM:=cG T;have da:(At T).length<=f.length:=by
        have h1:=ax.length_eq;rw[<-TG,B4] at h1;have h2:=TF f f.length;rw[Nt] at h2;omega
       have bt:=cE w.heap.size T p 0 (.slice (some ⟨w,0,none⟩) f.length f.length) (List.replicate f.length 0) wr I (TY aK b) (by rw[C6];exact bN) (by rw[C6];omega) (by omega);have cl:=A0 bt;have cC:wr.cell? ⟨F,0,none⟩=some (.slice (some ⟨g,0,none⟩) 1 C):=u;have J:=A0 (aa.trans b.below);clear bt I ax bN cM da u;go_wp2_with fail;refine l.mono ?_;rintro e D ⟨rfl,rfl⟩;go_wp2_with fail;refine cl.mono ?_;rintro e c0 ⟨rfl,cX,cU⟩;go_wp2_with fail;go_ret;exact⟨_,_,rfl,cX,Or.inr (Or.inr ⟨c4,T,K T (.one T),rfl⟩),J.trans cU.below⟩
end Go.Proofs.YtmajkjjjfodhlaaGreatDoor
