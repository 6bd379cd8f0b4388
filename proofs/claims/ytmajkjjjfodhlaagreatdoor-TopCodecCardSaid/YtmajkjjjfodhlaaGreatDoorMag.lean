/- Part Mag. No condition of its own. -/
import Derived.Test.YtmajkjjjfodhlaaGreatDoorMaf
namespace Go.Proofs.YtmajkjjjfodhlaaGreatDoor
open Go.RowKit Tryz
set_option linter.all false
set_option maxRecDepth 100000
set_option maxHeartbeats 8000000
theorem B9:type_of%@List.getD_eq_getElem?_getD:=@List.getD_eq_getElem?_getD
theorem C1:type_of%@List.append_assoc:=@List.append_assoc
theorem N7:type_of%@List.getElem_replicate:=@List.getElem_replicate
theorem N9:type_of%@List.replicate_succ:=@List.replicate_succ
theorem P6:type_of%@List.take_left':=@List.take_left'
theorem WZ:type_of%@List.getElem_cons_succ:=@List.getElem_cons_succ
theorem JP{b:List Bool}{p width n:Int}(h:AS b p width=some n):0<=n/\n<p2 width.toNat/\p+width<=b.length:=by
 unfold AS at h;split at h
 ·rename_i hc;injection h with h;subst h;have hb:=IX ((b.drop p.toNat).take width.toNat);have hl:((b.drop p.toNat).take width.toNat).length=width.toNat:=by rw[B5,G1];omega
  rw[hl] at hb;exact⟨hb.1,hb.2,hc.2.2.2⟩
 ·cases h
theorem NJ{b:List Bool}{m:Nat}{p a:Int}{L:List Int}(h:AS b p 9=none):BK b (m+1) p a L=none:=by
 unfold BK;rw[h]
theorem NK{b:List Bool}{m:Nat}{p a s:Int}{L:List Int}(h:AS b p 9=some s)(h2:AS b (p+9) 4=none):BK b (m+1) p a L=none:=by
 unfold BK;rw[h,h2]
theorem NL{b:List Bool}{m:Nat}{p a s k:Int}{L:List Int}(h:AS b p 9=some s)(h2:AS b (p+9) 4=some k)(hc:s<=a\/272<=s\/k=0):BK b (m+1) p a L=none:=by
 conv=>lhs;unfold BK
 rw[h,h2];simp only[];rw[A4 hc]
theorem KO{b:List Bool}{m:Nat}{p a s k:Int}{L:List Int}(h:AS b p 9=some s)(h2:AS b (p+9) 4=some k)(hc:¬(s<=a\/272<=s\/k=0)):BK b (m+1) p a L=BK b m (p+13) s (L.set s.toNat k):=by
 conv=>lhs;unfold BK
 rw[h,h2];simp only[];rw[A3 hc]
theorem Qf{b:List Bool}(h:AS b 0 9=none):Df b=none:=by unfold Df;rw[h]
theorem L7{b:List Bool}{n:Nat}(h:AS b 0 9=some (n:Int))(h2:BK b n 9 (-1) (List.replicate 272 0)=none):Df b=none:=by
 unfold Df;rw[h];simp only[BY];rw[h2]
theorem L8{b:List Bool}{n:Nat}{L:List Int}{p:Int}(h:AS b 0 9=some (n:Int))(h2:BK b n 9 (-1) (List.replicate 272 0)=some (L,p)):Df b=if AI L=true then some (L,p) else none:=by
 unfold Df;rw[h];simp only[BY];rw[h2]
def db(bs:List Bool)(a:Nat)(v:Value)(w:World)(e:Ending)(w':World):Prop:=
 Au (·=a) w.heap.size w w'/\((∃L q,Df bs=some (L,q)/\e= .returned (.slice (some ⟨w,0,none⟩) 272 272)/\w'.ownsRow w.heap.size 3 1 (.slice (some ⟨w,0,none⟩) 272 272) 272 (L.map (Value.int .i64))/\L.length=272/\BU w' a v q)\/(Df bs=none/\e= .panicked [{v:=JM,recovered:=false}]))
theorem Qg{a w w':World}{c:Nat}(b:Below a a w)(d:a<=c)(hs:Au (·=c) w.heap.size w w'):Below a a w':=
 b.trans (hs.below (λk hk e=>by omega) b.size)
theorem de(N:World)(c:Nat)(v:Value)(bs:List Bool)(w:World)(hr:BU w c v 0)(au:Gy N v bs)(ag:Below N N w)(a1:N<=c)(hl:bs.length<=140737488355328):
 Calls prog 351 #[.pointer (some ⟨c,0,none⟩)] w λe w'=>db bs c v w e w':=by
 obtain⟨i0,aV,aX,b0,b3⟩:=BW NI;have bt:=hr.lt;obtain⟨ax,W,Q⟩:=Hx3 hr au ag;clear hr au ag;go_enter func351,ntmps351;go_wp2_with (first
  |(at_make;refine HZ _ rfl _ _ 73 rfl w.heap.size 3 i0 (.int .i64 0) 1 underlying73 aV aX b0 .i64 .i64 _ _ 272 rfl rfl rfl rfl (by rw[b3];omega) (by simp[maxLen]) (A1 _) ?_
    intro a4 O ai;have Y:=(A2 w.heap.size w).grown ai (A1 _) (λk hk=>by cases hk);have bu:w<a4.heap.size:=AM O _ rfl;have Hown1:Hid (a4.ownsRow w.heap.size 3 1 (.slice (some ⟨w,0,none⟩) 272 272) 272 ((List.replicate 272 (0:Int)).map (Value.int .i64))):=by
     unfold Hid;rw[<-Qe];rw[J0] at O;exact O
    obtain⟨J,a9⟩:=Hx2 (Au.of (S:=(·=c)) Y) (ax.keep Y);have Z:=Ny c v bs 0 9 a4 a9 (Aj W (Qg Q a1 J)) hl (by decide);clear O ai Y)
  |fail)
 refine Z.mono ?_;rintro e bL ⟨E,⟨n,z,rfl,an⟩|⟨z,rfl⟩⟩;rotate_left
 ·have x:=A0 (Qf z);have K:=A0 (J.trans (E.mono (by omega) (λ_ _ q=>q)));clear E z Z;go_wp2_with fail;exact⟨rfl,K,Or.inr ⟨x,rfl⟩⟩
 obtain⟨ak,o,_⟩:=JP z;obtain⟨b,rfl⟩:=G0 ak
 have bb:(b:Int)<512:=by have:p2 (Int.toNat 9)=512:=by decide
                         rw[this] at o;exact o
 obtain⟨x,aa,K,a8⟩:=Hx4 z an (J.trans (E.mono (by omega) (λ_ _ q=>q))) (E.owns Hown1 (A1 _) (λk hk e=>by omega));clear E z Z an o ak Hown1 J a9;go_wp2_with fail;go_loopw [4,12] (λaT i wr=>∃(k:Nat) (a:Int) (L:List Int),i= .int .i64 k/\k<=b/\aT= .int .i64 a∧-1<=a/\a<272/\L.length=272/\BK bs b 9 (-1) (List.replicate 272 0)=BK bs (b-k) (9+13*k) a L/\BU wr c v (9+13*k)/\wr.ownsRow w.heap.size 3 1 (.slice (some ⟨w,0,none⟩) 272 272) 272 (L.map (Value.int .i64))/\Au (·=c) w.heap.size w wr) (λ_ i _=>b-(intOf i).toNat)
 case atStart=>exact⟨0,-1,_,rfl,A7 _,rfl,by decide,by decide,C6 ..,rfl,by simpa using aa.out,a8,K⟩
 case round=>
  obtain⟨k,a,L,rfl,hk,rfl,bc,bl,ah,aj,aq,al,hs⟩:=hrel;obtain⟨u,r,ac,T,h⟩:=Hx5 ah aj aq al hs;clear ah aj aq al hs aa a8 K;by_cases bp:k<b
  ·have g2:(k:Int)<(b:Int):=by omega
   have af:b-k=(b-(k+1))+1:=by omega
   have M:=A0 af;clear af;have H:=h.size;generalize hp:(9:Int)+13*k=p at*;have bq:0<=p/\p<=10000:=by omega
   have aM:=A0 hp;clear hp;have o:=Ny c v bs p 9 wr ac (Aj W (Qg Q a1 h)) hl (by omega);go_wp2_with fail;refine o.mono ?_;rintro e a5 ⟨F,⟨s,B,rfl,ao⟩|⟨B,rfl⟩⟩;rotate_left
   ·have f:Hid (Df bs=none):=L7 x (by rw[r.out,M.out];exact NJ B);have d:=A0 (h.trans (F.mono H (λ_ _ q=>q)));clear F B o;go_wp2_with fail;exact⟨rfl,d,Or.inr ⟨f,rfl⟩⟩
   obtain⟨b4,b5,_⟩:=JP B;obtain⟨R,d,U⟩:=Hx3 B (h.trans (F.mono H (λ_ _ q=>q))) (F.owns T (A1 _) (λk hk e=>by omega));have ar:=d.size;have a0:=Ny c v bs (p+9) 4 a5 ao (Aj W (Qg Q a1 d)) hl (by omega);clear F B o ao b5;go_wp2_with fail;refine a0.mono ?_;rintro e D ⟨G,⟨m,A,rfl,ap⟩|⟨A,rfl⟩⟩;rotate_left
   ·have f:Hid (Df bs=none):=L7 x (by rw[r.out,M.out];exact NK R A);have j:=A0 (d.trans (G.mono ar (λ_ _ q=>q)));clear G A a0;go_wp2_with fail;exact⟨rfl,j,Or.inr ⟨f,rfl⟩⟩
   obtain⟨bK,m1,_⟩:=JP A;obtain⟨a7,j,V⟩:=Hx3 A (d.trans (G.mono ar (λ_ _ q=>q))) (G.owns U (A1 _) (λk hk e=>by omega));have bw:=j.size;have ab:Hid (BU D c v (p+13)):=by have q:=ap;rw[Int.add_assoc] at q;exact q
   clear G A a0 ap m1;by_cases g:s<=a\/272<=s\/m=0
   ·have f:Hid (Df bs=none):=L7 x (by rw[r.out,M.out];exact NL R a7 g);by_cases I:s<=a
    ·have b1:decide (s<=a)=true:=by simpa using I
     clear g;go_wp2_with fail;exact⟨rfl,j,Or.inr ⟨f,rfl⟩⟩
    by_cases P:272<=s
    ·have b1:decide (s<=a)=false:=by simpa using I
     have b2:decide (272<=s)=true:=by simpa using P
     clear g;go_wp2_with fail;exact⟨rfl,j,Or.inr ⟨f,rfl⟩⟩
    obtain rfl:m=0:=by omega
    have b1:decide (s<=a)=false:=by simpa using I
    have b2:decide (272<=s)=false:=by simpa using P
    clear g;go_wp2_with fail;exact⟨rfl,j,Or.inr ⟨f,rfl⟩⟩
   ·have a6:Hid (BK bs b 9 (-1) (List.replicate 272 0)=BK bs (b-(k+1)) (p+13) s (L.set s.toNat m)):=by
     unfold Hid;rw[r.out,M.out];exact KO R a7 g
    have I:¬s<=a:=λq=>g (Or.inl q);have P:¬272<=s:=λq=>g (Or.inr (Or.inl q));have b7:¬m=0:=λq=>g (Or.inr (Or.inr q));have b1:decide (s<=a)=false:=by simpa using I
    have b2:decide (272<=s)=false:=by simpa using P
    have b8:(m==0)=false:=by simpa using b7
    obtain⟨t,rfl⟩:=G0 b4;have a3:t<272:=by omega
    have bx:(t:Int)<272:=by omega
    have b9:=V.frozenAt t;have aU:D.cell? ⟨w,t,none⟩=some (.int .i64 (L[t]'(by rw[u.out];exact a3))):=by rw[V.out.cellAt t (by omega),Hp,Bl (by rw[u.out];exact a3)];rfl
    have a2:=(V.stored t (.int .i64 m)).1;rw[<-I3] at a2;obtain⟨aP,aK⟩:=Hx2 a2 (j.set (p:=⟨w,t,none⟩) (Or.inr (A1 _)) (.int .i64 m));have aC:Hid (BU (D.setCell ⟨w,t,none⟩ (.int .i64 m)) c v (p+13)):=
     BU.save ab ((Au.refl (·=w.heap.size) D.heap.size D).set (p:=⟨w,t,none⟩) (Or.inl rfl) _) ab.lt (by intro e;exact absurd e (by omega))
    rw[BY] at a6;have X:p+13=9+13*((k+1:Nat):Int):=by have:=aM.out;omega
    have aF:Hid (BU (D.setCell ⟨w,t,none⟩ (.int .i64 m)) c v (9+13*((k+1:Nat):Int))):=by unfold Hid;rw[<-X];exact aC
    have av:Hid (BK bs b 9 (-1) (List.replicate 272 0)=BK bs (b-(k+1)) (9+13*((k+1:Nat):Int)) t (L.set t m)):=by unfold Hid;rw[<-X];exact a6
    clear X;generalize L[t]'(by rw[u.out];exact a3)=old at aU;clear a2 g;go_wp2_with fail;exact⟨⟨k+1,t,L.set t m,by go_num,by omega,rfl,by omega,by omega,by rw[Di];exact u,av,aF,aP,aK⟩,by simp[intOf];omega⟩
  ·obtain rfl:k=b:=by omega
   rw[Hr] at r;have hf:Df bs=if AI L=true then some (L,9+13*(k:Int)) else none:=L8 x r;have ad:=A0 hf;have y:=Tm (.slice (some ⟨w,0,none⟩) 272 272) L wr ((Cr T).1) (by rw[u.out];omega);clear hf;have H:=h.size;cases C:AI L with
   |false=>
    rw[C] at y;have f:Hid (Df bs=none):=by unfold Hid;rw[ad.out,C];rfl
    clear C;go_wp2_with fail;refine y.mono ?_;rintro e a5 ⟨b6,rfl,_,l⟩;have d:=A0 (h.then l H);clear y l;go_wp2_with fail;exact⟨rfl,d,Or.inr ⟨f,rfl⟩⟩
   |true=>
    rw[C] at y;have aL:Hid (Df bs=some (L,9+13*(k:Int))):=by unfold Hid;rw[ad.out,C];rfl
    clear C;go_wp2_with fail;refine y.mono ?_;rintro e a5 ⟨b6,rfl,_,l⟩;obtain⟨d,ay,U⟩:=Hx3 (h.then l H) (ac.keep l) (Ag T l);clear y l;go_wp2_with fail;go_ret;exact⟨d,Or.inl ⟨L,_,aL,rfl,U,u,ay⟩⟩
theorem dg{b:List Bool}:∀(n:Nat) (p a:Int) (L c:List Int) (q:Int),BK b n p a L=some (c,q)->0<=p->p<=b.length->0<=q/\q<=b.length:=by
 intro n;induction n with
 |zero=>intro p a L c q h h0 h1;unfold BK at h;injection h with h;injection h with _ h;subst h;exact⟨h0,h1⟩
 |succ n d=>
  intro p a L c q h h0 h1;cases hs:AS b p 9 with
  |none=>rw[NJ hs] at h;cases h
  |some s=>
   cases hk:AS b (p+9) 4 with
   |none=>rw[NK hs hk] at h;cases h
   |some k=>
    by_cases hc:s<=a\/272<=s\/k=0
    ·rw[NL hs hk hc] at h;cases h
    ·rw[KO hs hk hc] at h;have:=(JP hk).2.2;exact d _ _ _ _ _ h (by omega) (by omega)
theorem T9{b:List Bool}{L:List Int}{q:Int}(h:Df b=some (L,q)):AI L=true/\0<=q/\q<=b.length:=by
 cases a:AS b 0 9 with
 |none=>rw[Qf a] at h;cases h
 |some n=>
  have hb:=JP a;obtain⟨d,rfl⟩:=G0 hb.1;cases c:BK b d 9 (-1) (List.replicate 272 0) with
  |none=>rw[L7 a c] at h;cases h
  |some x=>
   obtain⟨f,p⟩:=x;rw[L8 a c] at h;split at h
   ·rename_i e;injection h with h;injection h with h1 h2;subst h1 h2;exact⟨e,dg _ _ _ _ _ _ c (by decide) (by omega)⟩
   ·cases h
theorem dh{l:List Int}{b:List Bool}{p:Int}{s:Nat}(h:CK l b p=some s):p+l[s]?.getD 0<=b.length/\0<=p/\0<l[s]?.getD 0:=by
 have h1:=PH h;have h2:=Fz.1 h1.2.2;have h3:=h1.2.1;omega
theorem Qh{L:List Int}{b:List Bool}{p q:Int}{t:An}(h:CM L b p=some (t,q)):p<q/\q<=b.length:=by
 unfold CM at h;cases hr:CK L b p with
 |none=>rw[hr] at h;cases h
 |some s=>
  rw[hr] at h;have hb:=dh hr;simp only[] at h;split at h
  ·injection h with h;injection h with _ h;subst h;omega
  ·cases hd:AS b (p+L[s]?.getD 0) 8 with
   |none=>rw[hd] at h;cases h
   |some d=>
    rw[hd] at h;have:=(JP hd).2.2;injection h with h;injection h with _ h;subst h;omega
theorem Ma{L:List Int}{b:List Bool}{many t p:Int}{m:Nat}{out:List An}(h:¬t<many):BL L b many (m+1) t p out=some (out,p):=by
 unfold BL;rw[A3 h]
theorem NM{L:List Int}{b:List Bool}{many t p:Int}{m:Nat}{out:List An}(h:t<many)(h2:CM L b p=none):BL L b many (m+1) t p out=none:=by
 unfold BL;rw[A4 h,h2]
theorem Jb{L:List Int}{b:List Bool}{many t p q:Int}{m:Nat}{out:List An}{x:An}(h:t<many)(h2:CM L b p=some (x,q))(hc:AJ x=false\/t<x.2.1\/many<t+max x.2.2 1):BL L b many (m+1) t p out=none:=by
 conv=>lhs;unfold BL
 rw[A4 h,h2];simp only[];rw[A4 hc]
theorem JQ{L:List Int}{b:List Bool}{many t p q:Int}{m:Nat}{out:List An}{x:An}(h:t<many)(h2:CM L b p=some (x,q))(hc:¬(AJ x=false\/t<x.2.1\/many<t+max x.2.2 1)):BL L b many (m+1) t p out=BL L b many m (t+max x.2.2 1) q (out++[x]):=by
 conv=>lhs;unfold BL
 rw[A4 h,h2];simp only[];rw[A3 hc]
def Iq(g:Nat->Int->Int):Nat->List Int->Int
 |_,[]=>0
 |k,x::L=>g k x+Iq g (k+1) L
theorem Ua(g:Nat->Int->Int)(d:Int):∀(L:List Int) (k n:Nat) (a:n<L.length),Iq g k (L.set n d)=Iq g k L+g (k+n) d-g (k+n) L[n]:=by
 intro L;induction L with
 |nil=>intro k n a;simp at a
 |cons x L b=>
  intro k n a;cases n with
  |zero=>simp only[HM,Iq,Hb,H5];omega
  |succ n=>
   have:=b (k+1) n (by simpa using a);simp only[G3,Iq,WZ];rw[this,show k+1+n=k+(n+1) by omega];omega
def gT(g:Nat->Int->Int):HT->Int->Int
 | .leaf _ n,d=>g n d-g n 0
 | .node l a,d=>gT g l (d+1)+gT g a (d+1)
theorem di(g:Nat->Int->Int)(t:HT):∀(d:Int) (L:List Int),(At t).Nodup->(∀s∈At t,L[s]?=some 0)->Iq g 0 (BD t d L)=Iq g 0 L+gT g t d:=by
 induction t with
 |leaf w n=>
  intro d L _ h;have h0:=h n (by simp[At]);obtain⟨b,h0⟩:=N2.1 h0;rw[BD,Ua g d L 0 n b,h0,B2,gT];omega
 |node l j f i=>
  intro d L c h;have a:=List.nodup_append.1 (show(At l++At j).Nodup from c);have hl:=f (d+1) L a.1 λs hs=>h s (by rw[At];exact SV _ hs);have hr:=i (d+1) (BD l (d+1) L) a.2.1 λs hs=>by
   rw[LR l _ _ s (λe=>a.2.2 s e s hs rfl)];exact h s (by rw[At];exact LV _ hs)
  rw[BD,hr,hl,gT];omega
def Mb:HT->Int->Prop
 | .leaf _ _,d=>d<=15
 | .node l a,d=>Mb l (d+1)/\Mb a (d+1)
theorem dj{t:HT}:∀{d:Int},Mb t d->d<=15:=by
 induction t with
 |leaf w n=>intro d h;exact h
 |node l b a _=>intro d h;have:=a h.1;omega
theorem dl(t:HT):∀(d:Int) (L:List Int),(At t).Nodup->(∀s∈At t,s<L.length)->(∀s∈At t,(BD t d L)[s]?.getD 0<=15)->Mb t d:=by
 induction t with
 |leaf w n=>
  intro d L _ hs h;have:=h n (by simp[At]);rw[BD,K1 (hs n (by simp[At])),D0] at this;exact this
 |node l b e f=>
  intro d L c hs h;have a:=List.nodup_append.1 (show(At l++At b).Nodup from c);refine⟨e (d+1) L a.1 (λs q=>hs s (by rw[At];exact SV _ q)) λs q=>?_,f (d+1) (BD l (d+1) L) a.2.1 (λs q=>by rw[I6];exact hs s (by rw[At];exact LV _ q)) λs q=>?_⟩
  ·have:=h s (by rw[At];exact SV _ q);rw[BD,LR b _ _ s (λhr=>a.2.2 s q s hr rfl)] at this;exact this
  ·exact h s (by rw[At];exact LV _ q)
theorem Qi(t:HT):∀(d:Int) (L:List Int),(∀s∈At t,s<L.length)->∀s∈At t,d<=(BD t d L)[s]?.getD 0:=by
 induction t with
 |leaf w n=>
  intro d L hs s h;obtain rfl:=B6.1 (show s∈[n] from h);rw[BD,K1 (hs s h),D0];omega
 |node l a b c=>
  intro d L hs s h;by_cases hr:s∈At a
  ·have:=c (d+1) (BD l (d+1) L) (λs q=>by rw[I6];exact hs s (by rw[At];exact LV _ q)) s hr;rw[BD];omega
  ·have hl:s∈At l:=by
    rcases GA.1 (show s∈At l++At a from h) with q|q
    ·exact q
    ·exact absurd q hr
   have:=b (d+1) L (λs q=>hs s (by rw[At];exact SV _ q)) s hl;rw[BD,LR a _ _ s hr];omega
theorem NN(L:List Int):∀k,Iq (λ_ x=>Dr x) k L=BH L:=by
 induction L with
 |nil=>intro k;rfl
 |cons x L a=>
  intro k;have e:BH (x::L)=Dr x+BH L:=by simp[BH]
  rw[Iq,a,e]
theorem Qj:Dr 0=0:=by decide
theorem Ub(t:HT):∀(d:Nat),1<=d->Mb t d->gT (λ_ x=>Dr x) t d=p2 (15-d):=by
 induction t with
 |leaf w n=>
  intro d hd h;have h:(d:Int)<=15:=h;rw[gT,Qj];unfold Dr;rw[A4 (by omega),BY];omega
 |node l f a b=>
  intro d hd h;have c:=dj h.1;rw[gT,show((d:Int)+1)=((d+1:Nat):Int) by omega,a (d+1) (by omega) h.1,b (d+1) (by omega) h.2];have e:p2 (15-d)=2*p2 (15-(d+1)):=by rw[<-F5];congr 1;omega
  omega
theorem Qk(n:Nat):BH (List.replicate n 0)=0:=by
 induction n with
 |zero=>rfl
 |succ n a=>
  have e:BH ((0:Int)::List.replicate n 0)=Dr 0+BH (List.replicate n 0):=by simp[BH]
  rw[N9,e,a,Qj];rfl
theorem dm{f:List Int}{s:Nat}:s∈(BT f).flatMap At↔∃hs:s<f.length,0<f[s]:=by
 rw[L1];constructor
 ·rintro⟨t,b,h⟩;obtain⟨i,a,h0,rfl⟩:=In.1 b;obtain rfl:=B6.1 (show s∈[i] from h);exact⟨a,h0⟩
 ·rintro⟨hs,h0⟩;exact⟨_,In.2 ⟨s,hs,h0,rfl⟩,by simp[At]⟩
theorem dp{f L:List Int}(h:Io f L)(hm:I7 L)(_hf:∀x∈f,0<=x):
 (∀i (b:i<f.length) (c:i<L.length),(0<L[i]↔0<f[i])/\0<=L[i])/\(2<=(BT f).length->BH L=32768)/\((BT f).length<2->BH L=16384*(BT f).length):=by
 rcases h with⟨h1,rfl⟩|⟨w,n,h1,rfl⟩|⟨h1,T,o,rfl⟩
 ·refine⟨λi b c=>?_,λh=>by rw[h1] at h;simp at h,λ_=>by rw[h1,Qk];rfl⟩;have:¬0<f[i]:=λh0=>by
   have:=In.2 ⟨i,b,h0,rfl⟩;rw[h1] at this;cases this
  simp;omega
 ·obtain⟨j,C,h0,A⟩:=In.1 (show HT.leaf w n∈BT f by rw[h1];exact B6.2 rfl);injection A with e1 e2;subst e2;refine⟨λi b c=>?_,λh=>by rw[h1] at h;simp at h,λ_=>?_⟩
  ·rw[HC];by_cases e:n=i
   ·subst e;simp[h0]
   ·rw[A3 e,N7];refine⟨⟨λh=>by omega,λhp=>?_⟩,by omega⟩;have:=In.2 ⟨i,b,hp,rfl⟩;rw[h1,B6] at this;injection this with _ this;exact absurd this.symm e
  ·have hs:=Ua (λ_ x=>Dr x) 1 (List.replicate f.length 0) 0 n (by simpa using C);rw[NN,NN,Qk,N7,Qj] at hs;rw[hs,h1];have:Dr 1=16384:=by decide
   rw[this];rfl
 ·have t:=aH o;have p:(At T).Nodup:=t.nodup_iff.2 (PV f).1;have k:∀s,s∈At T↔∃hs:s<f.length,0<f[s]:=λs=>by rw[t.mem_iff];exact dm
  have d:∀s∈At T,s<(List.replicate f.length (0:Int)).length:=λs hs=>by rw[C6];exact((k s).1 hs).1
  obtain⟨l,a,rfl⟩:=aI o h1;refine⟨λi b c=>?_,λ_=>?_,λh=>by omega⟩
  ·by_cases g:i∈At (.node l a)
   ·have B:1<=(BD (.node l a) 0 (List.replicate f.length 0))[i]?.getD 0:=by
     rcases GA.1 (show i∈At l++At a from g) with q|q
     ·by_cases y:i∈At a
      ·have:=Qi a (0+1) (BD l (0+1) (List.replicate f.length 0)) (λs h=>by rw[I6];exact d s (by rw[At];exact LV _ h)) i y;rw[BD];omega
      ·have:=Qi l (0+1) (List.replicate f.length 0) (λs h=>d s (by rw[At];exact SV _ h)) i q;rw[BD,LR a _ _ i y];omega
     ·have:=Qi a (0+1) (BD l (0+1) (List.replicate f.length 0)) (λs h=>by rw[I6];exact d s (by rw[At];exact LV _ h)) i q;rw[BD];omega
    rw[Bl c,D0] at B;obtain⟨_,h0⟩:=(k i).1 g;exact⟨⟨λ_=>h0,λ_=>by omega⟩,by omega⟩
   ·have m:=LR (.node l a) 0 (List.replicate f.length 0) i g;rw[Bl c,N3,A4 b] at m;injection m with m;have D:¬0<f[i]:=λh0=>g ((k i).2 ⟨b,h0⟩);rw[m];exact⟨⟨λh=>by omega,λh=>absurd h D⟩,by omega⟩
  ·have E:∀s∈At (.node l a),(List.replicate f.length (0:Int))[s]?=some 0:=λs hs=>by
    rw[N3,A4 ((k s).1 hs).1]
   have hd:=dl (.node l a) 0 (List.replicate f.length 0) p d λs hs=>by
    have r:s<(BD (.node l a) 0 (List.replicate f.length 0)).length:=by rw[I6];exact d s hs
    rw[Bl r,D0];exact hm _ (BA r)
   have hk:=di (λ_ x=>Dr x) (.node l a) 0 (List.replicate f.length 0) p E;rw[NN,NN,Qk,gT] at hk;have u:=Ub l 1 (by omega) hd.1;have v:=Ub a 1 (by omega) hd.2;have z:p2 (15-1)=16384:=by decide
   rw[z] at u v;rw[hk];have e:((0:Int)+1)=((1:Nat):Int):=by omega
   rw[e,u,v];rfl
theorem Uc{f L:List Int}(h:Ea f L)(hf:∀x∈f,0<=x)(hl:f.length<=300):L.length=f.length/\AI L=true/\∀i (a:i<f.length) (b:i<L.length),(0<L[i]↔0<f[i])/\0<=L[i]:=by
 have m:=bi h;obtain⟨g,n,hm,o,j⟩:=bk h;obtain⟨k,l⟩:=j hf;obtain⟨h1,h2,h3⟩:=dp n hm k;have hrel:∀i (a:i<f.length) (b:i<L.length),(0<L[i]↔0<f[i])/\0<=L[i]:=λi a b=>by
  have c:i<g.length:=by omega
  exact⟨(h1 i c b).1.trans (l i a c),(h1 i c b).2⟩
 refine⟨m,SS (by omega) (λx d=>?_) ?_,hrel⟩
 ·obtain⟨i,a,rfl⟩:=HQ d;exact⟨(hrel i (by omega) a).2,hm _ d⟩
 ·by_cases e:2<=(BT g).length
  ·rw[h2 e];decide
  ·rw[h3 (by omega)];omega
def Eb(L:List Int):Nat->Nat->List Bool
 |0,_=>[]
 |n+1,k=>(if 0<L[k]?.getD 0 then Ar (k:Int) 9++Ar (L[k]?.getD 0) 4 else[])++Eb L n (k+1)
def Jc(L:List Int):Nat->Nat->Nat
 |0,_=>0
 |n+1,k=>(if 0<L[k]?.getD 0 then 1 else 0)+Jc L n (k+1)
theorem Ud(L:List Int):∀n k,FD L (k+n)=FD L k++Eb L n k
 |0,k=>by simp[Eb]
 |n+1,k=>by
  rw[show k+(n+1)=(k+1)+n by omega,Ud L n (k+1),P0,Eb,C1]
theorem Ue(L:List Int):∀n k,CL L (k+n)=CL L k+Jc L n k
 |0,k=>by simp[Jc]
 |n+1,k=>by
  rw[show k+(n+1)=(k+1)+n by omega,Ue L n (k+1),PZ,Jc,Hl]
theorem dq(L:List Int)(n:Nat):FD L n=Eb L n 0:=by
 have:=Ud L n 0;rw[B2] at this;rw[this];simp[FD]
theorem dr(L:List Int)(n:Nat):CL L n=Jc L n 0:=by
 have:=Ue L n 0;rw[B2] at this;rw[this];simp[CL]
theorem NO{pre more:List Bool}{n:Int}{width:Nat}(h0:0<=n)(h1:n<p2 width)(a:width<=30):AS (pre++(Ar n width++more)) pre.length width=some n:=by
 unfold AS;rw[A4 ⟨by omega,by omega,by omega,by simp[Ci];omega⟩];rw[BY,BY,List.drop_left,P6 (Ci _ _),SF h0 h1]
def FF(L:List Int)(k:Nat):List Int:=L.take k++List.replicate (L.length-k) 0
theorem dt(L:List Int):FF L 0=List.replicate L.length 0:=by simp[FF]
theorem du(L:List Int):FF L L.length=L:=by simp[FF]
theorem Uf{L:List Int}{k:Nat}(hk:k<L.length):(FF L k).set k L[k]=FF L (k+1):=by
 apply I2;intro i;unfold FF;rw[List.getElem?_set];by_cases e:k=i
 ·subst e;have h1:k<(List.take k L++List.replicate (L.length-k) 0).length:=by simp;omega
  rw[A4 rfl,A4 h1,HI (by simp;omega),HP (by omega),Bl hk]
 ·rw[A3 e];by_cases a:i<k
  ·rw[HI (by simp;omega),HI (by simp;omega),HP a,HP (by omega)]
  ·rw[HU (by simp;omega),HU (by simp;omega)];simp only[B5];by_cases hl:i<L.length
   ·rw[List.getElem?_replicate_of_lt (by omega),List.getElem?_replicate_of_lt (by omega)]
   ·rw[E9 (by simp;omega),E9 (by simp;omega)]
theorem dv{L:List Int}{k:Nat}(hk:k<L.length)(h:L[k]=0):FF L k=FF L (k+1):=by
 rw[<-Uf hk,h]
 symm
 apply I2;intro i;rw[List.getElem?_set];by_cases e:k=i
 ·subst e;have h1:k<(FF L k).length:=by simp[FF];omega
  rw[A4 rfl,A4 h1];unfold FF;rw[HU (by simp;omega),List.getElem?_replicate_of_lt (by simp;omega)]
 ·rw[A3 e]
theorem Ql{L:List Int}(b:L.length=272)(hr:∀x∈L,0<=x/\x<=15):∀(n k:Nat) (pre more:List Bool) (a:Int),k+n=272->a<k->
 BK (pre++(Eb L n k++more)) (Jc L n k) pre.length a (FF L k)=some (L,((pre++Eb L n k).length:Int))
 |0,k,pre,more,a,h,_=>by
  obtain rfl:k=L.length:=by omega
  simp only[Jc,Eb,BK,du,E5]
 |n+1,k,pre,more,a,h,ha=>by
  have hk:k<L.length:=by omega
  have o:=hr L[k] (BA hk);have g:L[k]?.getD 0=L[k]:=by rw[Bl hk,D0]
  rw[Jc,Eb,g];by_cases hp:0<L[k]
  ·rw[A4 hp,A4 hp,Nat.add_comm 1];have d:pre++(Ar (k:Int) 9++Ar L[k] 4++Eb L n (k+1)++more)=pre++(Ar (k:Int) 9++(Ar L[k] 4++(Eb L n (k+1)++more))):=by simp
   have e:pre++(Ar (k:Int) 9++Ar L[k] 4++Eb L n (k+1)++more)=(pre++Ar (k:Int) 9)++(Ar L[k] 4++(Eb L n (k+1)++more)):=by simp
   have f:pre++(Ar (k:Int) 9++Ar L[k] 4++Eb L n (k+1)++more)=(pre++Ar (k:Int) 9++Ar L[k] 4)++(Eb L n (k+1)++more):=by simp
   have m:p2 9=512:=by decide
   have l:p2 4=16:=by decide
   have i:AS (pre++(Ar (k:Int) 9++Ar L[k] 4++Eb L n (k+1)++more)) pre.length 9=some (k:Int):=by
    rw[d];exact NO (width:=9) (by omega) (by rw[m];omega) (by omega)
   have j:AS (pre++(Ar (k:Int) 9++Ar L[k] 4++Eb L n (k+1)++more)) ((pre.length:Int)+9) 4=some L[k]:=by
    have:=NO (pre:=pre++Ar (k:Int) 9) (more:=Eb L n (k+1)++more) (n:=L[k]) (width:=4) (by omega) (by rw[l];omega) (by omega);rw[A9,Ci] at this;rw[e];exact this
   rw[KO i j (by omega),BY,Uf hk,f];have c:=Ql b hr n (k+1) (pre++Ar (k:Int) 9++Ar L[k] 4) more k (by omega) (by omega);rw[show((pre++Ar (k:Int) 9++Ar L[k] 4).length:Int)=(pre.length:Int)+13 by simp only[A9,Ci];omega] at c;rw[c];simp
  ·have h0:L[k]=0:=by omega
   rw[A3 hp,A3 hp,B2,B7,dv hk h0];exact Ql b hr n (k+1) pre more a (by omega) (by omega)
def GH(L:List Int):List Bool:=Ar (CL L 272:Nat) 9++FD L 272
theorem Ug(L:List Int):(GH L).length=9+13*CL L 272:=by unfold GH;rw[A9,Ci,TK]
theorem Qm(L:List Int)(l:List An):Ff L l=GH L++l.flatMap (Dw L):=rfl
theorem dw{L:List Int}(a:L.length=272)(b:AI L=true)(more:List Bool):Df (GH L++more)=some (L,((GH L).length:Int)):=by
 have hr:=(D7 b).2.1;have hm:=LU L 272;have c:p2 9=512:=by decide
 have h0:AS (GH L++more) 0 9=some (CL L 272:Int):=by
  have:=NO (pre:=[]) (more:=FD L 272++more) (n:=(CL L 272:Int)) (width:=9) (by omega) (by rw[c];omega) (by omega);unfold GH;rw[C1];exact this
 have h1:=Ql a hr 272 0 (Ar (CL L 272:Nat) 9) more (-1) (by omega) (by omega);rw[<-dq,<-dr,<-C1,dt,a,Ci] at h1;rw[L8 h0 h1,A4 b];rfl
theorem dx{L:List Int}(f:AI L=true){b d n:Int}(hm:AJ (b,d,n)=true)(hs:(AC (b,d,n)).toNat<L.length)(h0:L[(AC (b,d,n)).toNat]≠0)(pre more:List Bool):
 CM L (pre++(Dw L (b,d,n)++more)) pre.length=some ((b,d,n),((pre++Dw L (b,d,n)).length:Int)):=by
 obtain⟨u,v,s,t⟩:=LT hm;have hp:=JL hm;have hr:=(D7 f).2.1 _ (BA hs);have c:(BI L (AC (b,d,n)).toNat).length=(L[(AC (b,d,n)).toNat]?.getD 0).toNat:=LJ _ _;have a:L[(AC (b,d,n)).toNat]?.getD 0=L[(AC (b,d,n)).toNat]:=by rw[Bl hs,D0]
 rw[a] at c;have i:∀rest,CK L (pre++(BI L (AC (b,d,n)).toNat++rest)) pre.length=some (AC (b,d,n)).toNat:=λrest=>PG f (Zq f hs h0 pre rest);have r:p2 8=256:=by decide
 by_cases e:0<n
 ·have hb:Dw L (b,d,n)=BI L (AC (b,d,n)).toNat++Ar d 8:=by unfold Dw;rw[A4 e]
  obtain⟨p,q⟩:=s e;have j:pre++(BI L (AC (b,d,n)).toNat++Ar d 8++more)=pre++(BI L (AC (b,d,n)).toNat++(Ar d 8++more)):=by simp
  have k:pre++(BI L (AC (b,d,n)).toNat++Ar d 8++more)=(pre++BI L (AC (b,d,n)).toNat)++(Ar d 8++more):=by simp
  have o:AS (pre++(BI L (AC (b,d,n)).toNat++Ar d 8++more)) ((pre.length:Int)+L[(AC (b,d,n)).toNat]?.getD 0) 8=some d:=by
   have:=NO (pre:=pre++BI L (AC (b,d,n)).toNat) (more:=more) (n:=d) (width:=8) (by omega) (by rw[r];omega) (by omega);rw[k,a];rw[A9,c,show((pre.length+L[(AC (b,d,n)).toNat].toNat:Nat):Int)=(pre.length:Int)+L[(AC (b,d,n)).toNat] by omega] at this;exact this
  unfold CM;rw[hb];have h:=i (Ar d 8++more);rw[<-j] at h;rw[h];simp only[];rw[A3 (by omega),o];simp only[];have l:b=0:=by omega
  have g:(((AC (b,d,n)).toNat:Nat):Int) -253=n:=by omega
  rw[g,a];subst l;congr 2;simp only[A9,c,Ci];omega
 ·have hb:Dw L (b,d,n)=BI L (AC (b,d,n)).toNat:=by unfold Dw;rw[A3 e,E5]
  obtain⟨p,q⟩:=t e;unfold CM;rw[hb,i more];simp only[];rw[A4 (by omega)];have m:d=0/\n=0:=by omega
  obtain⟨rfl,rfl⟩:=m;have g:(((AC (b,0,0)).toNat:Nat):Int)=b:=by omega
  rw[g,a];congr 2;simp only[A9,c];omega
theorem NP{most:Int}:∀{ts:List An} {out a:List Int},Bk most ts out=some a->out.length+ts.length<=a.length/\(a.length:Int)<=max most out.length
 |[],out,a,h=>by
  rw[Bk] at h;injection h with h;subst h;simp;omega
 |t::ts,out,a,h=>by
  rw[Bk] at h;split at h
  ·rename_i hc;have h1:=NP h;have h2:=PQ hc.1 out;simp only[BV];omega
  ·cases h
theorem Uh{L:List Int}(i:AI L=true)(more:List Bool){most:Int}:∀(ts:List An) (pre:List Bool) (AL c:List Int) (out:List An) (m:Nat),
 (∀t∈ts,∃hs:(AC t).toNat<L.length,L[(AC t).toNat]≠0)->Bk most ts AL=some c->ts.length<=m->
 BL L (pre++(ts.flatMap (Dw L)++more)) c.length (m+1) AL.length pre.length out=some (out++ts,((pre++ts.flatMap (Dw L)).length:Int))
 |[],pre,AL,c,out,m,_,a,_=>by
  rw[Bk] at a;injection a with a;subst a;rw[Ma (by omega)];simp
 |(b,d,n)::ts,pre,AL,c,out,m,hs,a,hm=>by
  rw[Bk] at a;split at a
  ·rename_i hc;obtain⟨e,hd,j⟩:=hc;obtain⟨k,h0⟩:=hs (b,d,n) (Hh ..);obtain⟨m',rfl⟩:∃m',m=m'+1:=⟨m-1,by simp only[BV] at hm;omega⟩;have g:=PQ e AL;have o:=(NP a).1;have hp:=JL e;simp only[G8,C1];have l:=dx i e k h0 pre (ts.flatMap (Dw L)++more);simp only at g hd j;rw[JQ (by omega) l (by rw[e];simp only[Bool.true_eq_false,false_or];omega)];have f:=Uh i more ts (pre++Dw L (b,d,n)) (Im (b,d,n) AL) c (out++[(b,d,n)]) m' (λt h=>hs t (G2 _ h)) a (by simp only[BV] at hm;omega);rw[g] at f;simp only[C1] at f⊢;rw[f];simp
  ·cases a
theorem Qn{l:List An}{L:List Int}(h:Ea (CW l) L)(g:Es l=true):L.length=272/\AI L=true/\∀t∈l,∃hs:(AC t).toNat<L.length,L[(AC t).toNat]≠0:=by
 obtain⟨h1,h2,h3⟩:=Uc h (λx a=>(Nx l x a).1) (by rw[GD];omega);rw[GD] at h1;refine⟨h1,h2,λt e=>?_⟩;have f:∀t∈l,AJ t=true:=by
  have:Es l=true:=g;simp only[Es,Hz,HH] at this;exact this.2
 obtain⟨b,d,n⟩:=t;obtain⟨j,k,_,_⟩:=LT (f _ e);obtain⟨x,a,i⟩:=bo e (s:=(AC (b,d,n)).toNat) (by omega) (by omega);refine⟨by omega,?_⟩;have c:(AC (b,d,n)).toNat<(CW l).length:=by rw[GD];omega
 rw[Bl c] at a;injection a with a;have:=((h3 _ c (by omega)).1).2 (by omega);omega
theorem dy{l:List An}{L:List Int}{a:List Int}(h:Ea (CW l) L)(d:Es l=true)(b:Bk 1000 l []=some a)(more:List Bool):
 CB (Ff L l++more) a.length=some (l,((Ff L l).length:Int)):=by
 obtain⟨h1,h2,h3⟩:=Qn h d;have c:=NP b;simp only[C4] at c;unfold CB;rw[A3 (by omega),Qm,C1,dw h1 h2];simp only[];have:=Uh h2 more l (GH L) [] a [] a.length h3 b (by omega);rw[BY];simpa using this
def Jd(a:Nat)(b c:List Bool):Prop:=a<=b.length/\a<=c.length/\c.take a=b.take a
theorem Ui{a p k:Nat}{b c:List Bool}(h:Jd a b c)(hk:p+k<=a):(c.drop p).take k=(b.drop p).take k:=by
 have e:∀x:List Bool,a<=x.length->(x.drop p).take k=((x.take a).drop p).take k:=λx _=>by
  rw[List.drop_take,L4,HR (by omega)]
 rw[e b h.1,e c h.2.1,h.2.2]
theorem NQ{a:Nat}{b c:List Bool}{p width n:Int}(h:AS b p width=some n)(hb:Jd a b c)(d:p+width<=a):AS c p width=some n:=by
 unfold AS at h⊢;split at h
 ·rename_i hc;rw[A4 ⟨hc.1,hc.2.1,hc.2.2.1,by have:=hb.2.1;omega⟩,Ui hb (by omega)];exact h
 ·cases h
theorem Qo{b:List Bool}:∀(n:Nat) (p a:Int) (L c:List Int) (q:Int),BK b n p a L=some (c,q)->q=p+13*n
 |0,p,a,L,c,q,h=>by unfold BK at h;injection h with h;injection h with _ h;omega
 |n+1,p,a,L,c,q,h=>by
  cases hs:AS b p 9 with
  |none=>rw[NJ hs] at h;cases h
  |some s=>
   cases hk:AS b (p+9) 4 with
   |none=>rw[NK hs hk] at h;cases h
   |some k=>
    by_cases hc:s<=a\/272<=s\/k=0
    ·rw[NL hs hk hc] at h;cases h
    ·rw[KO hs hk hc] at h;have:=Qo n _ _ _ _ _ h;omega
theorem Uj{e:Nat}{b c:List Bool}(hb:Jd e b c):∀(n:Nat) (p a:Int) (L d:List Int) (q:Int),BK b n p a L=some (d,q)->q<=e->BK c n p a L=some (d,q)
 |0,p,a,L,d,q,h,_=>by unfold BK at h⊢;exact h
 |n+1,p,a,L,d,q,h,f=>by
  cases hs:AS b p 9 with
  |none=>rw[NJ hs] at h;cases h
  |some s=>
   cases hk:AS b (p+9) 4 with
   |none=>rw[NK hs hk] at h;cases h
   |some k=>
    by_cases hc:s<=a\/272<=s\/k=0
    ·rw[NL hs hk hc] at h;cases h
    ·have g:=Qo _ _ _ _ _ _ h;rw[KO hs hk hc] at h;rw[KO (NQ hs hb (by omega)) (NQ hk hb (by omega)) hc];exact Uj hb n _ _ _ _ _ h f
theorem Uk{b:List Bool}{L:List Int}{q:Int}(h:Df b=some (L,q)):∃n:Nat,AS b 0 9=some (n:Int)/\BK b n 9 (-1) (List.replicate 272 0)=some (L,q)/\AI L=true/\q=9+13*n:=by
 cases c:AS b 0 9 with
 |none=>rw[Qf c] at h;cases h
 |some n=>
  have d:=JP c;obtain⟨m,rfl⟩:=G0 d.1;cases a:BK b m 9 (-1) (List.replicate 272 0) with
  |none=>rw[L7 c a] at h;cases h
  |some x=>
   obtain⟨f,p⟩:=x;rw[L8 c a] at h;split at h
   ·rename_i e;injection h with h;injection h with h1 h2;subst h1 h2;exact⟨m,rfl,a,e,Qo _ _ _ _ _ _ a⟩
   ·cases h
theorem dz{a:Nat}{b c:List Bool}{L:List Int}{q:Int}(h:Df b=some (L,q))(hb:Jd a b c)(g:q<=a):Df c=some (L,q):=by
 obtain⟨n,e,d,f,i⟩:=Uk h;rw[L8 (NQ e hb (by omega)) (Uj hb _ _ _ _ _ _ d g),A4 f]
theorem Ul{a:Nat}{b c:List Bool}{L:List Int}{p:Int}{s:Nat}(h:CK L b p=some s)(hb:Jd a b c)(f:p+L[s]?.getD 0<=a):CK L c p=some s:=by
 obtain⟨e,hp,d⟩:=PH h;obtain⟨g,rfl⟩:=G0 hp;rw[BY] at d;obtain⟨h1,h2,h3⟩:=Fz.1 d;refine PG e (Fz.2 ⟨h1,?_,?_⟩)
 ·have:=hb.2.1;omega
 ·rw[Ui hb (by omega)];exact h3
theorem dA{e:Nat}{b c:List Bool}{L:List Int}{p q:Int}{t:An}(h:CM L b p=some (t,q))(hb:Jd e b c)(f:q<=e):CM L c p=some (t,q):=by
 unfold CM at h⊢;cases hr:CK L b p with
 |none=>rw[hr] at h;cases h
 |some s=>
  rw[hr] at h;simp only[] at h;split at h
  ·rename_i a;injection h with h;injection h with h1 h2;rw[Ul hr hb (by omega)];simp only[];rw[A4 a,h1,h2]
  ·rename_i a;cases hd:AS b (p+L[s]?.getD 0) 8 with
   |none=>rw[hd] at h;cases h
   |some d=>
    rw[hd] at h;injection h with h;injection h with h1 h2;rw[Ul hr hb (by omega)];simp only[];rw[A3 a,NQ hd hb (by omega)];simp only[];rw[h1,h2]
theorem Um{L:List Int}{b:List Bool}{many:Int}:∀(m:Nat) (AL:List Int) (p:Int) (out l:List An) (q:Int),BL L b many m AL.length p out=some (l,q)->(AL.length:Int)<=many->p<=b.length->
 ∃ts c,l=out++ts/\Bk many ts AL=some c/\(c.length:Int)=many/\p<=q/\q<=b.length
 |0,AL,p,out,l,q,h,_,_=>by unfold BL at h;cases h
 |m+1,AL,p,out,l,q,h,g,hp=>by
  by_cases a:(AL.length:Int)<many
  ·cases hk:CM L b p with
   |none=>rw[NM a hk] at h;cases h
   |some x=>
    obtain⟨t,f⟩:=x;by_cases hc:AJ t=false\/(AL.length:Int)<t.2.1\/many<AL.length+max t.2.2 1
    ·rw[Jb a hk hc] at h;cases h
    ·rw[JQ a hk hc] at h;have hm:AJ t=true:=by cases e:AJ t with
      |true=>rfl
      |false=>exact absurd (Or.inl e) hc
     have hl:=PQ hm AL;have d:=Qh hk;rw[<-hl] at h;obtain⟨ts,c,rfl,h2,h3,h4,h5⟩:=Um m (Im t AL) f (out++[t]) l q h (by omega) d.2;refine⟨t::ts,c,by simp,?_,h3,by omega,h5⟩;rw[Bk,A4 ⟨hm,by omega,by omega⟩];exact h2
  ·rw[Ma a] at h;injection h with h;injection h with h1 h2;subst h1 h2;exact⟨[],AL,by simp,rfl,by omega,E4 _,hp⟩
theorem Un{L:List Int}{b:List Bool}{many:Int}:∀(m:Nat) (AL p:Int) (out l:List An) (q:Int),BL L b many m AL p out=some (l,q)->p<=q
 |0,AL,p,out,l,q,h=>by unfold BL at h;cases h
 |m+1,AL,p,out,l,q,h=>by
  by_cases a:AL<many
  ·cases hk:CM L b p with
   |none=>rw[NM a hk] at h;cases h
   |some x=>
    obtain⟨t,c⟩:=x;by_cases hc:AJ t=false\/AL<t.2.1\/many<AL+max t.2.2 1
    ·rw[Jb a hk hc] at h;cases h
    ·rw[JQ a hk hc] at h;have:=Un m _ _ _ _ _ h;have:=Qh hk;omega
  ·rw[Ma a] at h;injection h with h;injection h with h1 h2;omega
theorem Uo{d:Nat}{b c:List Bool}{L:List Int}{many:Int}(hb:Jd d b c):∀(m:Nat) (AL p:Int) (out l:List An) (q:Int),BL L b many m AL p out=some (l,q)->q<=d->BL L c many m AL p out=some (l,q)
 |0,AL,p,out,l,q,h,_=>by unfold BL at h;cases h
 |m+1,AL,p,out,l,q,h,e=>by
  by_cases a:AL<many
  ·cases hk:CM L b p with
   |none=>rw[NM a hk] at h;cases h
   |some x=>
    obtain⟨t,f⟩:=x;by_cases hc:AJ t=false\/AL<t.2.1\/many<AL+max t.2.2 1
    ·rw[Jb a hk hc] at h;cases h
    ·rw[JQ a hk hc] at h;have h1:=Un _ _ _ _ _ _ h;rw[JQ a (dA hk hb (by omega)) hc];exact Uo hb m _ _ _ _ _ h e
  ·rw[Ma a] at h⊢;exact h
theorem Up{b:List Bool}{many:Int}{l:List An}{q:Int}(h:CB b many=some (l,q)):
 (∃a,Bk many l []=some a/\(a.length:Int)=many)/\9<=q/\q<=b.length/\0<=many/\many<=1000/\∀c,Jd q.toNat b c->CB c many=some (l,q):=by
 unfold CB at h;split at h
 ·cases h
 ·rename_i hm;cases hl:Df b with
  |none=>rw[hl] at h;cases h
  |some x=>
   obtain⟨L,p⟩:=x;rw[hl] at h;simp only[] at h;obtain⟨n,_,_,_,e⟩:=Uk hl;have d:=(T9 hl).2.2;obtain⟨ts,a,h1,h2,h3,h4,h5⟩:=Um _ [] p [] l q (by simpa using h) (by simp;omega) d;rw[B7] at h1;subst h1;refine⟨⟨a,h2,h3⟩,by omega,h5,by omega,by omega,λc hc=>?_⟩;unfold CB;rw[A3 hm,dz hl hc (by omega)];exact Uo hc _ _ _ _ _ _ h (by omega)
def Dg(l:List Bool)(j:Nat):Int:=AA ((List.range 8).map λm=>l.getD (8*j+m) false)
def CC(n:Nat):Nat:=(n+7)/8
def EO(n:Nat)(l:List Bool):List Int:=(List.range (CC n)).map (Dg l)
def DN(l:List Bool):List Int:=EO l.length l
theorem dB(j:Nat):Dg [] j=0:=by simp[Dg,AA,List.range,List.range.loop]
theorem dC(l:List Bool)(j:Nat):0<=Dg l j/\Dg l j<256:=by
 have h:=IX ((List.range 8).map λm=>l.getD (8*j+m) false);rw[B4,LA] at h;have e:p2 8=256:=by decide
 rw[e] at h;exact h
theorem Uq{l m:List Bool}{j:Nat}(h:∀i,i<8->l.getD (8*j+i) false=m.getD (8*j+i) false):Dg l j=Dg m j:=by
 unfold Dg;congr 1;exact HV λi a=>h i (HW.1 a)
theorem Qp(l:List Bool)(x:Bool)(i:Nat):(l++[x]).getD i false=if i=l.length then x else l.getD i false:=by
 simp only[B9];by_cases h:i<l.length
 ·rw[HI h,A3 (by omega)]
 ·by_cases e:i=l.length
  ·subst e;simp
  ·rw[A3 e,E9 (by simp;omega),E9 (by omega)]
theorem Ur(l:List Bool)(j:Nat):Dg (l++[false]) j=Dg l j:=by
 refine Uq λi _=>?_;rw[Qp];split
 ·rename_i h;rw[h,B9,E9 (A1 _)];rfl
 ·rfl
theorem dD(l:List Bool)(x:Bool){j:Nat}(h:j≠l.length/8):Dg (l++[x]) j=Dg l j:=by
 refine Uq λi a=>?_;rw[Qp,A3 (by omega)]
theorem dE(n:Nat):AA (List.replicate n false)=0:=by
 induction n with
 |zero=>rfl
 |succ n a=>rw[N9,M8,a];simp
theorem dF(l:List Bool){m:Nat}(hm:m<8)(h:l.length%8=m)(x:Bool):
 ((List.range 8).map λi=>(l++[x]).getD (8*(l.length/8)+i) false)=((List.range m).map λi=>l.getD (8*(l.length/8)+i) false)++x::List.replicate (7-m) false:=by
 apply Hf
 ·simp;omega
 ·intro i h1 h2;simp only[B4,LA] at h1;rw[HJ,VA,Qp];by_cases a:i<m
  ·rw[K2 (by simpa using a),A3 (by omega)];simp
  ·rw[K3 (by simpa using a)];by_cases e:i=m
   ·subst e;simp;omega
   ·rw[A3 (by omega)];have:∃d,i-m=d+1:=⟨i-m-1,by omega⟩;obtain⟨d,hd⟩:=this;simp only[B4,LA,hd,WZ,N7];rw[B9,E9 (by omega)];rfl
theorem Ut(l:List Bool)(x:Bool):Dg (l++[x]) (l.length/8)=AA ((List.range (l.length%8)).map λi=>l.getD (8*(l.length/8)+i) false)*p2 (8-l.length%8)+(if x then 1 else 0)*p2 (7-l.length%8):=by
 have hm:l.length%8<8:=P8 _ (by decide);rw[Dg,dF l hm rfl,PD,M8,dE,BV,C6];rw[show 7-l.length%8+1=8-l.length%8 by omega];simp
theorem dG(l:List Bool):bits .or .u8 (Dg l (l.length/8)) (2 ^(7-l.length%8)%256)=Dg (l++[true]) (l.length/8):=by
 have hm:l.length%8<8:=P8 _ (by decide);rw[<-Ur,Ut,Ut];generalize d:AA ((List.range (l.length%8)).map λi=>l.getD (8*(l.length/8)+i) false)=P;have hb:=IX ((List.range (l.length%8)).map λi=>l.getD (8*(l.length/8)+i) false);rw[d,B4,LA] at hb;have h:p2 (l.length%8)*p2 (8-l.length%8)=256:=by
  rw[<-M7,show l.length%8+(8-l.length%8)=8 by omega];decide
 have c:(2:Int) ^(7-l.length%8)%256=p2 (7-l.length%8):=by
  rw[<-JG];have:=D6 (7-l.length%8);have:=Gx (m:=7-l.length%8) (n:=7) (by omega);have:p2 7=128:=by decide
  exact Int.emod_eq_of_lt (by omega) (by omega)
 have hs:p2 (8-l.length%8)=2*p2 (7-l.length%8):=by rw[<-F5];congr 1;omega
 have hp:=D6 (7-l.length%8);have j:=D6 (8-l.length%8);have f:P*p2 (8-l.length%8)<256:=by
  have:P*p2 (8-l.length%8)<p2 (l.length%8)*p2 (8-l.length%8):=Int.mul_lt_mul_of_pos_right hb.2 (by omega);omega
 have g:0<=P*p2 (8-l.length%8):=T1 hb.1 (by omega);have e:=bits_join .u8 8 (by decide) (λn a b=>wraps_u8 n a b) (8-l.length%8) (P*p2 (8-l.length%8)) (p2 (7-l.length%8)) g (by rw[<-JG];exact Int.mul_emod_left _ _) f (by omega) (by rw[<-JG];omega)
  (by have:=Gx (m:=7-l.length%8) (n:=7) (by omega);have:p2 7=128:=by decide
      omega)
 rw[c];simpa using e
theorem dH(n:Nat)(l:List Bool):(EO n l).set (l.length/8) (bits .or .u8 (Dg l (l.length/8)) (2 ^(7-l.length%8)%256))=EO n (l++[true]):=by
 rw[dG];apply Hf
 ·simp[EO]
 ·intro i h1 h2;simp only[EO,HC,HJ,VA];split
  ·rename_i h;rw[h]
  ·rename_i h;exact(dD l true (by omega)).symm
theorem dI(n:Nat)(l:List Bool):EO n l=EO n (l++[false]):=by
 unfold EO;exact HV λj _=>(Ur l j).symm
theorem NR(l:List Bool):(DN l).length=CC l.length:=by simp[DN,EO]
def BX(s:List Int):List Bool:=s.flatMap λc=>Ar c 8
theorem Qq(s:List Int):(BX s).length=8*s.length:=by
 induction s with
 |nil=>rfl
 |cons c s a=>rw[BX,G8,A9,Ci,<-BX,a,BV];omega
theorem dJ(l:List Bool)(j:Nat):Ar (Dg l j) 8=(List.range 8).map λm=>l.getD (8*j+m) false:=by
 have:=Y5 ((List.range 8).map λm=>l.getD (8*j+m) false)
 rwa [B4,LA] at this
theorem dK(s:List Int)(j m:Nat)(a:j<s.length)(hm:m<8):(BX s)[8*j+m]?=(Ar s[j] 8)[m]?:=by
 induction s generalizing j with
 |nil=>simp at a
 |cons c s b=>
  rw[BX,G8,<-BX];cases j with
  |zero=>rw[HI (by rw[Ci];omega)];simp
  |succ j=>
   rw[HU (by rw[Ci];omega),Ci,show 8*(j+1)+m-8=8*j+m by omega,b j (by simpa using a)];simp
theorem dL(l:List Bool):BX (DN l)=l++List.replicate (8*CC l.length-l.length) false:=by
 have b:l.length<=8*CC l.length:=by unfold CC;omega
 apply I2;intro i;by_cases c:i<8*CC l.length
 ·have a:i/8<(DN l).length:=by rw[NR];omega
  have h:=dK (DN l) (i/8) (i%8) a (P8 _ (by decide));rw[show 8*(i/8)+i%8=i by omega] at h;rw[h];have e:(DN l)[i/8]=Dg l (i/8):=by simp[DN,EO]
  rw[e,dJ,Hp,List.getElem?_range (P8 _ (by decide))];simp only[Q1];rw[show 8*(i/8)+i%8=i by omega,B9];by_cases hl:i<l.length
  ·rw[HI hl,Bl hl];rfl
  ·rw[HU (by omega),E9 (by omega),N3,A4 (by omega)];rfl
 ·rw[E9 (by rw[Qq,NR];omega),E9 (by simp;omega)]
end Go.Proofs.YtmajkjjjfodhlaaGreatDoor
