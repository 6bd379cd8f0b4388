/- Part Mad. No condition of its own. -/
import Derived.Test.YtmajkjjjfodhlaaGreatDoorMac
namespace Go.Proofs.YtmajkjjjfodhlaaGreatDoor
open Go.RowKit Tryz
set_option linter.all false
set_option maxRecDepth 100000
set_option maxHeartbeats 8000000
theorem D1:type_of%@List.map_append:=@List.map_append
theorem E5:type_of%@List.append_nil:=@List.append_nil
theorem G2:type_of%@List.mem_cons_of_mem:=@List.mem_cons_of_mem
theorem Hh:type_of%@List.mem_cons_self:=@List.mem_cons_self
theorem HB:type_of%@List.flatMap_append:=@List.flatMap_append
theorem HK:type_of%@List.mem_filter:=@List.mem_filter
theorem HL:type_of%@List.range_succ:=@List.range_succ
theorem H4:type_of%@List.filter_append:=@List.filter_append
theorem I4:type_of%@List.pairwise_cons:=@List.pairwise_cons
theorem K4:type_of%@List.getElem_drop:=@List.getElem_drop
theorem N6:type_of%@List.getElem?_set_ne:=@List.getElem?_set_ne
theorem P5:type_of%@List.singleton_append:=@List.singleton_append
theorem Q1:type_of%@Option.map_some:=@Option.map_some
theorem S0:type_of%@Nat.add_sub_cancel:=@Nat.add_sub_cancel
theorem T6:type_of%@List.flatMap_nil:=@List.flatMap_nil
theorem VC:type_of%@List.nodup_cons:=@List.nodup_cons
theorem W1:type_of%@List.mem_or_eq_of_mem_set:=@List.mem_or_eq_of_mem_set
theorem W4:type_of%@List.perm_singleton:=@List.perm_singleton
theorem W6:type_of%@List.reverse_append:=@List.reverse_append
abbrev Gy(w:World)(v:Value)(l:List Bool):Prop:=Av w v 1 (λx=>[.bool x]) l
theorem ZY(v:Value)(bs:List Bool)(n width:Int)(w:World)(f:Gy w v bs)(hl:bs.length<=140737488355232)(d:EK n width=true):
 Calls prog 167 #[v, n, width] w λe w'=>∃(a:Option Addr) (cap:Nat) (l:List Bool),e= .returned (.tuple #[.slice a l.length cap, .bool true])/\Hid (l=bs++Ar n width.toNat)/\Gy w' (.slice a l.length cap) l/\Below w w w':=
 (SH v bs n width w f hl d).mono λe w' ⟨g,c,b,hb⟩=>by
  obtain⟨a,cap,rfl,_⟩:=Aw b;exact⟨a,cap,_,c,rfl,(Cr b).1,hb⟩
def Nk(l:List Int)(x:Int):Bool:=AI l&&decide (0<=x/\x<l.length/\l[x.toNat]?.getD 0≠0)
theorem Tn{l:List Int}{x:Int}:Nk l x=true↔AI l=true/\0<=x/\x<l.length/\l[x.toNat]?.getD 0≠0:=by simp[Nk]
theorem ZZ{l:List Int}(a:AI l=true){s:Nat}(hs:s<l.length)(h0:l[s]≠0):EK (DC l s) l[s]=true:=by
 obtain⟨n,b,hl⟩:=LI a hs h0;have h1:=SQ l s;have h2:=ST a hs hl b;simp only[EK,E0];rw[hl,BY];omega
def JK(l:List Int)(b:List Bool)(p:Int):Value:=match CK l b p with
 |some s=> .tuple #[s, .int .i64 (p+l[s]?.getD 0), .bool true]
 |none=> .tuple #[.int .i64 0, .int .i64 0, .bool false]
theorem LP{l:List Int}{b:List Bool}{p:Int}(h:CK l b p=none):JK l b p= .tuple #[.int .i64 0, .int .i64 0, .bool false]:=by unfold JK;rw[h]
theorem To{l:List Int}{b:List Bool}{p:Int}{s:Nat}(h:CK l b p=some s):JK l b p= .tuple #[s, .int .i64 (p+l[s]?.getD 0), .bool true]:=by unfold JK;rw[h]
theorem Z0{l:List Int}{b:List Bool}{p:Int}(h:AI l=false):CK l b p=none:=by
 unfold CK;rw[A3];rw[h];simp
theorem Z1{l:List Int}{b:List Bool}{p:Int}(h:p<0):CK l b p=none:=by
 unfold CK;rw[A3];omega
theorem Z2{l:List Int}{b:List Bool}{p:Int}(h:(b.length:Int)<p):CK l b p=none:=by
 cases hr:CK l b p with
 |none=>rfl
 |some s=>
  have:=PH hr;have:=(Fz.1 this.2.2).2.1;omega
theorem Z3(v u:Value)(l:List Int)(b:List Bool)(p:Int)(w:World)(S:Av w v 1 (λx=>[.int .i64 x]) l)(al:Gy w u b)(hl:l.length<=140737488355328)(bN:b.length<=140737488355328):
 Calls prog 382 #[v,u, p] w λe w'=>e= .returned (JK l b p)/\Below w w w':=by
 have a8:=Tb v l w S hl;have an:=al;obtain⟨b5,b6,rfl,bw,aU,aL⟩:=al;obtain⟨ap,W⟩:=Hx2 an S;clear an aL aU S;go_enter func382,ntmps382;go_wp2_with fail;refine a8.mono ?_;rintro e A ⟨cs,a9,aa,ab,rfl,a5⟩;obtain⟨G,f,Y,Z,a0⟩:=Hx5 (JI A AY 321) a5 a9 aa ab;clear a8 a5 a9 aa ab;cases R:AI l with
 |false=>
  have y:=A0 R;go_wp2_with (first|(refine Fe rfl 321 _ _ rfl A.heap.size cs AY 32 rfl rfl 321 G Eo rfl Y Z ?_;intro T r hb L _)|fail)
  go_ret3
  exact⟨by rw[LP (Z0 y.out)];rfl,(f.alloc f.size _).trans (hb _ f.size)⟩
 |true=>
  have y:=A0 R;have aM:=a0 y;subst aM;have bp:l.length<=300:=(D7 y).1;clear Y Z a0 R;by_cases aV:p<0
  ·go_wp2_with (first|(refine Fe rfl 321 _ _ rfl A.heap.size (Ep l) AY 32 rfl rfl 321 G Eo rfl (IZ _ _) (JJ _ _) ?_;intro T r hb L _)|fail)
   go_ret3
   exact⟨by rw[LP (Z1 aV)];rfl,(f.alloc f.size _).trans (hb _ f.size)⟩
  by_cases aX:(b.length:Int)<p
  ·have aq:=A0 (Z2 (l:=l) aX);go_wp2_with (first|(refine Fe rfl 321 _ _ rfl A.heap.size (Ep l) AY 32 rfl rfl 321 G Eo rfl (IZ _ _) (JJ _ _) ?_;intro T r hb L _)|fail)
   go_ret3
   exact⟨by rw[LP aq.out];rfl,(f.alloc f.size _).trans (hb _ f.size)⟩
  obtain⟨P,rfl⟩:=G0 (a:=p) (by omega);have bs:P<=b.length:=by omega
  go_wp2_with (first
   |(refine Fe rfl 321 _ _ rfl A.heap.size (Ep l) AY 32 rfl rfl 321 G Eo rfl (IZ _ _) (JJ _ _) ?_
     intro T r hb L _;obtain⟨X,U⟩:=Hx2 ((f.alloc f.size _).trans (hb _ f.size)) r;clear r hb L G)
   |fail)
  have bq:w<=A.heap.size:=f.size;generalize ay:A.heap.size=K at*;clear ay f;go_loopw [11,12] (λc i wr=>∃n:Nat,n<=15/\P+n<=b.length/\i= .int .i64 ((n:Int)+1)/\c= .int .i64 (AA ((b.drop P).take n))/\Ba wr K 321 (Ep l)/\Below w w wr/\∀s,Cs l b P s=true->n<(l[s]?.getD 0).toNat) (λ_ i _=>17-(intOf i).toNat)
  case atStart=>exact⟨0,by omega,by omega,rfl,by simp[AA],U,X,λs h=>(Fz.1 h).1⟩
  case round=>
   obtain⟨n,bP,bt,rfl,rfl,r,hb,ah⟩:=hrel;obtain⟨B,g,M⟩:=Hx3 r hb ah;clear r hb ah U X;by_cases bK:n=15\/P+n=b.length
   ·have ai:∀s,Cs l b P s=false:=λs=>by
     cases d:Cs l b P s with
     |false=>rfl
     |true=>
      exfalso;have h1:=M s d;obtain⟨hs,h0⟩:=LK d;have h2:=(D7 y).2.1 l[s] (BA hs);have h3:=(Fz.1 d).2.1;rw[Bl hs,D0] at h1 h3;omega
    have V:=A0 (LP (Zm ai));clear ai;by_cases au:n=15
    ·subst au;have g1:¬(15:Int)+1<=15:=by omega
     go_wp2_with fail
     go_ret3
     exact⟨by rw[V.out];rfl,g⟩
    ·have bO:P+n=b.length:=by omega
     have g1:(n:Int)+1<=15:=by omega
     have g2:¬((n:Int)+1<=(b.length:Int) -P):=by omega
     have d2:decide ((n:Int)+1<=(b.length:Int) -P)=false:=by simp;omega
     go_wp2_with fail
     go_ret3
     exact⟨by rw[V.out];rfl,g⟩
   ·have aT:n<15:=by omega
    have af:P+n<b.length:=by omega
    rcases Da ap with⟨rfl,_⟩|⟨_,b0,ao,c0,b3,bu,aF,a2⟩
    ·simp at af
    ·injection b3 with q1 q2 q3;subst q1 q3;have b7:wr.cell? ⟨b0,ao+(P+n),none⟩=some (.bool b[P+n]):=by rw[g.out.cell (p:=⟨b0,ao+(P+n),none⟩) aF];exact a2 (P+n) af
     have b8:wr.cell? ⟨K,16+(n+1),none⟩=some (.int .i64 (AX l (n+1))):=by
      rw[F6 B.out];unfold Ep;rw[Nh _ _ (by omega)];simp[FB];omega
     have b9:wr.cell? ⟨K,n+1,none⟩=some (.int .i64 (Az l (n+1))):=by
      rw[F6 B.out];unfold Ep;rw[PI _ _ (by omega)];simp[AQ]
     have ak:(b.drop P).take (n+1)=(b.drop P).take n++[b[P+n]]:=by
      have h1:n<(b.drop P).length:=by rw[G1];omega
      rw[B1 h1,K4]
     have O:=PE ((b.drop P).take n) b[P+n];rw[<-ak] at O;have J:=A0 O;have a6:=IX ((b.drop P).take n);have a7:=IX ((b.drop P).take (n+1));have ac:=Gx (m:=((b.drop P).take n).length) (n:=15) (by rw[B5];omega);have ad:=Gx (m:=((b.drop P).take (n+1)).length) (n:=15) (by rw[B5];omega);rw[LH] at ac ad;have aK:=Nd y aT;have aj:=Gx (m:=n+1) (n:=15) (by omega);rw[LH] at aj;have bL:=Na l (n+1);have bR:=a6.1;have t1:AA ((b.drop P).take n)<=32768:=by omega
     have t2:=a7.1;have bT:AA ((b.drop P).take (n+1))<=32768:=by omega
     have bM:AX l (n+1)<=32768:=by omega
     have bx:(Az l (n+1):Int)<=32768:=by omega
     have g1:(n:Int)+1<=15:=by omega
     have g2:(n:Int)+1<=(b.length:Int) -P:=by omega
     have d2:decide ((n:Int)+1<=(b.length:Int) -P)=true:=by simp;omega
     have ar:(P:Int)+((n:Int)+1) -1=(P:Int)+(n:Int):=by omega
     have bV:IntKind.i64.wrap ((P:Int)+((n:Int)+1))=(P:Int)+((n:Int)+1):=C0 _ (by omega);have bX:IntKind.i64.wrap ((P:Int)+((n:Int)+1) -1)=(P:Int)+(n:Int):=by rw[ar];exact C0 _ (by omega)
     have bb:((P:Int)+(n:Int)).toNat=P+n:=by omega
     have bc:(P:Int)+(n:Int)<(b.length:Int):=by omega
     have bl:(0:Int)<=(P:Int)+(n:Int):=by omega
     have a3:((n:Int)+1).toNat=n+1:=by omega
     have ag:∀s,Cs l b P s=true->n+1<(l[s]?.getD 0).toNat\/(AX l (n+1)<=AA ((b.drop P).take (n+1))/\AA ((b.drop P).take (n+1))<AX l (n+1)+Az l (n+1)):=λs d=>by
      have h1:=M s d;obtain⟨hs,h0⟩:=LK d;rcases BZ (n+1) (l[s]?.getD 0).toNat with h|h
      ·exact Or.inl h
      ·right;have k:l[s]=((n+1:Nat):Int):=by
        rw[Bl hs,D0] at h1 h;omega
       exact Zp hs k d
     have Hnext:=A0 ag;have q:Hid (AX l (n+1)<=AA ((b.drop P).take (n+1))->AA ((b.drop P).take (n+1))<AX l (n+1)+Az l (n+1)->∃s,∃hs:s<l.length,l[s]=((n+1:Nat):Int)/\(Az (l.take s) (n+1):Int)=AA ((b.drop P).take (n+1)) -AX l (n+1)/\JK l b P= .tuple #[s, .int .i64 ((P:Int)+((n:Int)+1)), .bool true]):=by
      unfold Hid;intro h1 h2;obtain⟨s,hs,k,E,d⟩:=Zo (l:=l) (b:=b) (p:=P) (n:=n) (i:=(AA ((b.drop P).take (n+1)) -AX l (n+1)).toNat) (by omega) (by omega) (by omega);refine⟨s,hs,k,by omega,?_⟩;rw[To (PG y.out d),Bl hs,D0,k];congr 5
     have aP:=g.out;clear a2 ak O a6 a7 ac ad aK aj ag M q2 aP;generalize a4:AA ((b.drop P).take (n+1))=a1 at*;generalize aC:AA ((b.drop P).take n)=t at*;generalize ax:AX l (n+1)=F at*;generalize av:Az l (n+1)=C at*;generalize b[P+n]=x at*;have D:=A0 a4;clear a4 aC ax av;cases x
     ·have hc:a1=t*2:=by rw[J.out];simp
      subst hc;clear J;by_cases o:F<=t*2
      ·by_cases I:t*2-F<(C:Int)
       ·obtain⟨s,hs,k,E,H⟩:=q o (by omega);have N:=A0 H;have Q:=Tc v l ((n:Int)+1) (t*2-F) s wr (Aj W g) hl hs (by rw[k];omega) (by rw[a3];exact E.symm) (by omega);have b0:decide (F<=t*2)=true:=by simpa using o
        have b1:decide (t*2-F<(C:Int))=true:=by simpa using I
        have j:0<=t*2-F:=by omega
        have b2:decide (0<=t*2-F)=true:=by simpa using j
        clear H k E q Hnext D hs;go_wp2_with fail;refine Q.mono ?_;rintro e b4 ⟨rfl,rfl⟩;go_wp2_with fail
        go_ret3
        exact⟨by rw[N.out];rfl,g⟩
       ·have b0:decide (F<=t*2)=true:=by simpa using o
        have b1:decide (t*2-F<(C:Int))=false:=by simpa using I
        have j:0<=t*2-F:=by omega
        have b2:decide (0<=t*2-F)=true:=by simpa using j
        have z:Hid (∀s,Cs l b P s=true->n+1<(l[s]?.getD 0).toNat):=by
         intro s d;rcases Hnext.out s d with h|h
         ·exact h
         ·exfalso;omega
        clear q Hnext;go_wp2_with fail;exact⟨⟨n+1,by omega,by omega,by go_num,by rw[D.out],B,g,z⟩,by simp[intOf];omega⟩
      ·have b0:decide (F<=t*2)=false:=by simpa using o
       have j:¬0<=t*2-F:=by omega
       have b2:decide (0<=t*2-F)=false:=by simpa using j
       have z:Hid (∀s,Cs l b P s=true->n+1<(l[s]?.getD 0).toNat):=by
        intro s d;rcases Hnext.out s d with h|h
        ·exact h
        ·exfalso;omega
       clear q Hnext;go_wp2_with fail;exact⟨⟨n+1,by omega,by omega,by go_num,by rw[D.out],B,g,z⟩,by simp[intOf];omega⟩
     ·have hc:a1=t*2+1:=by rw[J.out];simp
      subst hc;clear J;by_cases o:F<=t*2+1
      ·by_cases I:t*2+1-F<(C:Int)
       ·obtain⟨s,hs,k,E,H⟩:=q o (by omega);have N:=A0 H;have Q:=Tc v l ((n:Int)+1) (t*2+1-F) s wr (Aj W g) hl hs (by rw[k];omega) (by rw[a3];exact E.symm) (by omega);have b0:decide (F<=t*2+1)=true:=by simpa using o
        have b1:decide (t*2+1-F<(C:Int))=true:=by simpa using I
        have j:0<=t*2+1-F:=by omega
        have b2:decide (0<=t*2+1-F)=true:=by simpa using j
        clear H k E q Hnext D hs;go_wp2_with fail;refine Q.mono ?_;rintro e b4 ⟨rfl,rfl⟩;go_wp2_with fail
        go_ret3
        exact⟨by rw[N.out];rfl,g⟩
       ·have b0:decide (F<=t*2+1)=true:=by simpa using o
        have b1:decide (t*2+1-F<(C:Int))=false:=by simpa using I
        have j:0<=t*2+1-F:=by omega
        have b2:decide (0<=t*2+1-F)=true:=by simpa using j
        have z:Hid (∀s,Cs l b P s=true->n+1<(l[s]?.getD 0).toNat):=by
         intro s d;rcases Hnext.out s d with h|h
         ·exact h
         ·exfalso;omega
        clear q Hnext;go_wp2_with fail;exact⟨⟨n+1,by omega,by omega,by go_num,by rw[D.out],B,g,z⟩,by simp[intOf];omega⟩
      ·have b0:decide (F<=t*2+1)=false:=by simpa using o
       have j:¬0<=t*2+1-F:=by omega
       have b2:decide (0<=t*2+1-F)=false:=by simpa using j
       have z:Hid (∀s,Cs l b P s=true->n+1<(l[s]?.getD 0).toNat):=by
        intro s d;rcases Hnext.out s d with h|h
        ·exact h
        ·exfalso;omega
       clear q Hnext;go_wp2_with fail;exact⟨⟨n+1,by omega,by omega,by go_num,by rw[D.out],B,g,z⟩,by simp[intOf];omega⟩
def Gz(len:Nat)(at' width:Int):Bool:=decide (0<=width/\width<=30/\0<=at'/\at'+width<=len)
theorem Z4(v:Value)(bs:List Bool)(p width:Int)(w:World)(c:Av w v 1 (λx=>[.bool x]) bs)(hl:bs.length<=140737488355328)(s:Gz bs.length p width=true):
 Calls prog 396 #[v, p, width] w λe w'=>e= .returned (.tuple #[.int .i64 (AA ((bs.drop p.toNat).take width.toNat)), .int .i64 (p+width), .bool true])/\w=w':=by
 have z:0<=width/\width<=30/\0<=p/\p+width<=bs.length:=by simpa[Gz] using s
 obtain⟨h1,h2,h3,h4⟩:=z;clear s;obtain⟨a,rfl⟩:=G0 h1;obtain⟨P,rfl⟩:=G0 h3;rw[BY,BY];by_cases t:a=0
 ·subst t;obtain⟨a0,c0,rfl,u,I,_⟩:=c;go_enter func396,ntmps396;go_wp2
  all_goals
   refine wp_loop_rounds 1 ?_;rw[rounds_succ];go_wp2
   go_ret3
   exact⟨by simp[AA],rfl⟩
 ·rcases Da c with⟨rfl,_⟩|⟨J,b0,D,c0,rfl,u,F,j⟩
  ·exfalso;simp at h4;omega
  ·have K:(P:Int)+a<=c0:=by omega
   have b:((bs.drop P).take a).length=a:=by rw[B5,G1];omega
   have h:∀k (hk:k<((bs.drop P).take a).length),w.cell? ⟨b0,D+P+k,none⟩=some (.bool ((bs.drop P).take a)[k]):=λk hk=>by
    have:=j (P+k) (by rw[b] at hk;omega);rw[<-Hl] at this;rw[this];simp[H9,K4]
   have g:=A0 b;generalize (bs.drop P).take a=l at*;clear b j c;go_enter func396,ntmps396;go_wp2
   go_loop [9,43] (λn i=>∃k:Nat,k<=a/\i= .int .i64 k/\n= .int .i64 (AA (l.take k))) (λ_ i=>a-(intOf i).toNat)
   case atStart=>exact⟨0,A7 _,rfl,by simp[AA]⟩
   case round=>
    obtain⟨k,hk,rfl,rfl⟩:=hrel;by_cases y:k<a
    ·have r:k<l.length:=by rw[g.out];exact y
     have o:=h k r;have d:=A0 (B1 r);have q:=IX (l.take k);have A:=PC (n:=(l.take k).length) (by have:=ID k l;omega);have B:=Gx (m:=(l.take k).length) (n:=30) (by have:=ID k l;omega);have C:p2 30=1073741824:=by decide
     have H:AA (l.take k)<1073741824:=by omega
     have G:=q.1;have E:(k:Int)<(a:Int):=by omega
     have g2:(0:Int)<=(k:Int):=by omega
     have f:=A0 (PE (l.take k) l[k]);clear A B C q h;generalize l[k]=x at*;cases x
     ·go_wp2
      exact⟨⟨k+1,by omega,by go_num,by rw[d.out,f.out];simp⟩,by simp[intOf];omega⟩
     ·go_wp2
      exact⟨⟨k+1,by omega,by go_num,by rw[d.out,f.out];simp⟩,by simp[intOf];omega⟩
    ·obtain rfl:k=a:=by omega
     have o:=A0 (E2 (Nat.le_of_eq g));go_wp2
     go_ret3
     exact⟨by simp[o.out],rfl⟩
theorem Z5(v:Value)(bs:List Bool)(p width:Int)(w:World)(c:Av w v 1 (λx=>[.bool x]) bs)(hl:bs.length<=140737488355328)(g:p<=9223372036854775807)(a:Gz bs.length p width=false):
 Calls prog 396 #[v, p, width] w λe w'=>e= .returned (.tuple #[.int .i64 0, .int .i64 0, .bool false])/\w=w':=by
 have b:¬(0<=width/\width<=30/\0<=p/\p+width<=bs.length):=by simpa[Gz] using a
 clear a;obtain⟨a0,c0,rfl,d,f,_⟩:=c;by_cases h1:width<0
 ·go_enter func396,ntmps396;go_wp2
  go_ret3
  exact⟨rfl,rfl⟩
 by_cases h2:30<width
 ·go_enter func396,ntmps396;go_wp2
  go_ret3
  exact⟨rfl,rfl⟩
 by_cases h3:p<0
 ·go_enter func396,ntmps396;go_wp2
  go_ret3
  exact⟨rfl,rfl⟩
 by_cases h4:(bs.length:Int)<p
 ·go_enter func396,ntmps396;go_wp2
  go_ret3
  exact⟨rfl,rfl⟩
 have h5:(bs.length:Int) -p<width:=by omega
 clear b;go_enter func396,ntmps396;go_wp2
 go_ret3
 exact⟨rfl,rfl⟩
def F7(P:Nat->Bool):Nat->Nat->Nat
 |0,n=>n
 |f+1,n=>if P n then F7 P f (n+1) else n
theorem Tp{P:Nat->Bool}{k:Nat}:∀f n,n<=k->k<=n+f->(∀i,n<=i->i<k->P i=true)->(k=n+f\/P k=false)->F7 P f n=k
 |0,n,h1,h2,_,_=>by simp only[F7];omega
 |f+1,n,h1,h2,h3,h4=>by
  unfold F7;by_cases a:n=k
  ·subst a;rcases h4 with h4|h4
   ·omega
   ·simp[h4]
  ·rw[h3 n (A1 _) (by omega),A4 rfl];exact Tp f (n+1) (by omega) (by omega) (λi b hk=>h3 i (by omega) hk) (by rcases h4 with h|h;exact Or.inl (by omega);exact Or.inr h)
theorem Nl{P:Nat->Bool}:∀f n,n<=F7 P f n/\F7 P f n<=n+f/\(∀i,n<=i->i<F7 P f n->P i=true)/\(F7 P f n=n+f\/P (F7 P f n)=false)
 |0,n=>⟨A1 _,A1 _,λi h1 h2=>by simp only[F7] at h2;omega,Or.inl rfl⟩
 |f+1,n=>by
  unfold F7;by_cases hp:P n=true
  ·rw[A4 hp];obtain⟨h1,h2,h3,h4⟩:=Nl (P:=P) f (n+1);refine⟨by omega,by omega,λi a hk=>?_,by rcases h4 with h|h;exact Or.inl (by omega);exact Or.inr h⟩;by_cases e:i=n
   ·subst e;exact hp
   ·exact h3 i (by omega) hk
  ·rw[A3 hp];exact⟨A1 _,by omega,λi h1 h2=>by omega,Or.inr (by simpa using hp)⟩
def bt(L:List UInt8)(i:Nat):UInt8:=L.getD i 0
def Il(L:List UInt8)(at' d n:Nat):Bool:=decide (at'+n<L.length)&&(bt L (at'+n)==bt L (at'+n-d))
def Du(L:List UInt8)(at' d:Nat):Nat:=F7 (Il L at' d) 18 0
theorem PM(L:List UInt8)(at' d:Nat):Du L at' d<=18:=by have:=(Nl (P:=Il L at' d) 18 0).2.1;unfold Du;omega
theorem KI{L:List UInt8}{at' d i:Nat}(h:i<Du L at' d):at'+i<L.length/\bt L (at'+i)=bt L (at'+i-d):=by
 have:=(Nl (P:=Il L at' d) 18 0).2.2.1 i (A7 _) h;unfold Il at this;simpa using this
theorem PN{L:List UInt8}{at' d k:Nat}(hk:k<=18)(h:∀i,i<k->at'+i<L.length/\bt L (at'+i)=bt L (at'+i-d))(a:k=18\/¬(at'+k<L.length/\bt L (at'+k)=bt L (at'+k-d))):Du L at' d=k:=
 Tp 18 0 (A7 _) (by omega) (λi _ b=>by have:=h i b;simp[Il,this]) (by
  rcases a with h|h
  ·exact Or.inl (by omega)
  ·right;unfold Il;simpa using h)
def KJ(L:List UInt8)(at' d:Nat)(a:Nat×Nat):Nat×Nat:=if d<=at'/\d<=255/\3<=Du L at' d/\a.1<Du L at' d then(Du L at' d,d) else a
def Bj(L:List UInt8)(at':Nat):Nat->Nat×Nat
 |0=>(0,0)
 |D+1=>KJ L at' (D+1) (Bj L at' D)
def Cj(L:List UInt8)(at':Nat):Nat×Nat:=Bj L at' 255
theorem Tq(L:List UInt8)(at':Nat):∀D,(Bj L at' D).1<=18
 |0=>by simp[Bj]
 |D+1=>by
  unfold Bj KJ;split
  ·exact PM _ _ _
  ·exact Tq L at' D
theorem PO(L:List UInt8)(at':Nat):∀D,Bj L at' D=(0,0)\/(3<=(Bj L at' D).1/\1<=(Bj L at' D).2/\(Bj L at' D).2<=D/\(Bj L at' D).2<=255/\(Bj L at' D).2<=at'/\Du L at' (Bj L at' D).2=(Bj L at' D).1)
 |0=>Or.inl rfl
 |D+1=>by
  unfold Bj KJ;split
  ·rename_i h;exact Or.inr ⟨h.2.2.1,by simp,by simp,h.2.1,h.1,rfl⟩
  ·rcases PO L at' D with h|h
   ·exact Or.inl h
   ·exact Or.inr ⟨h.1,h.2.1,by omega,h.2.2.2⟩
theorem Nm{L:List UInt8}{at' D:Nat}:∀E,D<=E->(∀d,D<d->d<=E->d<=at'->d<=255->3<=Du L at' d->Du L at' d<=(Bj L at' D).1)->Bj L at' E=Bj L at' D
 |0,h,_=>by obtain rfl:D=0:=by omega
            rfl
 |E+1,h,hc=>by
  by_cases e:D=E+1
  ·subst e;rfl
  ·have a:=Nm (L:=L) (at':=at') (D:=D) E (by omega) λd h1 h2 h3 h4 h5=>hc d h1 (by omega) h3 h4 h5;rw[Bj,a,KJ,A3];rintro⟨h1,h2,h3,h4⟩;have:=hc (E+1) (by omega) (A1 _) h1 h2 h3;omega
theorem Ts{L:List UInt8}{at' D:Nat}(h:255<=D\/at'<=D):Bj L at' D=Cj L at':=by
 unfold Cj;by_cases h1:D<=255
 ·exact(Nm 255 h1 λd a b c e _=>by omega).symm
 ·exact Nm D (by omega) λd a b c e _=>by omega
theorem Z6{L:List UInt8}{at' D:Nat}(h:(Bj L at' D).1=18)(a:D<=255):Bj L at' D=Cj L at':=
 (Nm 255 a λd _ _ _ _ _=>by rw[h];exact PM _ _ _).symm
theorem Z7{L:List UInt8}{at':Nat}(h:L.length<at'+3):Cj L at'=(0,0):=by
 rcases PO L at' 255 with h1|h1
 ·exact h1
 ·have h2:=(KI (L:=L) (at':=at') (d:=(Bj L at' 255).2) (i:=2) (by rw[h1.2.2.2.2.2];omega)).1;omega
def lp(L:List UInt8)(at':Nat):List Nat->Nat×Nat->Nat×Nat
 |[],a=>a
 |x::xs,a=>if 255<at'-x then a else
  let b:=if a.1<Du L at' (at'-x) then(Du L at' (at'-x),at'-x) else a
  if b.1=18 then b else lp L at' xs b
def CA(L:List UInt8)(j:Nat):List UInt8:=(L.drop j).take 3
def D8(L:List UInt8)(key:List UInt8)(lo c:Nat):List Nat:=(List.range' lo c).filter λj=>CA L j==key
theorem PP(L:List UInt8)(key:List UInt8)(lo c:Nat):D8 L key lo (c+1)=D8 L key lo c++if CA L (lo+c)=key then[lo+c] else[]:=by
 unfold D8;rw[List.range'_concat,H4];congr 1;by_cases h:CA L (lo+c)=key<;>simp[h]
theorem Z8{L:List UInt8}{key:List UInt8}{lo c j:Nat}(h:j∈D8 L key lo c):lo<=j/\j<lo+c/\CA L j=key:=by
 unfold D8 at h;rw[HK,List.mem_range'_1] at h;exact⟨h.1.1,h.1.2,by simpa using h.2⟩
theorem Tt(L:List UInt8)(j:Nat)(h:j+3<=L.length):CA L j=[bt L j,bt L (j+1),bt L (j+2)]:=by
 unfold CA bt;apply Hf
 ·simp;omega
 ·intro i h1 h2;simp only[BV,C4] at h2;rw[H9,K4]
  match i,h2 with
  |0,_=>simp[List.getD,Bl (show j<L.length by omega)]
  |1,_=>simp[List.getD,Bl (show j+1<L.length by omega)]
  |2,_=>simp[List.getD,Bl (show j+2<L.length by omega)]
theorem Z9(L:List UInt8)(j:Nat)(h:L.length<j+3):(CA L j).length≠3:=by simp[CA];omega
theorem Tu{L:List UInt8}{at' j:Nat}(h3:at'+3<=L.length)(b:j<at'):CA L j=CA L at'↔3<=Du L at' (at'-j):=by
 rw[Tt L j (by omega),Tt L at' h3];constructor
 ·intro h;simp only[List.cons.injEq,and_true] at h;refine Classical.byContradiction λc=>?_;have hc:=(Nl (P:=Il L at' (at'-j)) 18 0).2.2.2;change Du L at' (at'-j)=0+18\/Il L at' (at'-j) (Du L at' (at'-j))=false at hc;rcases hc with hc|hc
  ·omega
  ·generalize Du L at' (at'-j)=m at*;unfold Il at hc;have:m=0\/m=1\/m=2:=by omega
   rcases this with rfl|rfl|rfl
   ·rw[show at'+0-(at'-j)=j by omega,Hb,h.1] at hc;simp at hc;omega
   ·rw[show at'+1-(at'-j)=j+1 by omega,h.2.1] at hc;simp at hc;omega
   ·rw[show at'+2-(at'-j)=j+2 by omega,h.2.2] at hc;simp at hc;omega
 ·intro h;have a0:=(KI (L:=L) (at':=at') (d:=at'-j) (i:=0) (by omega)).2;have a1:=(KI (L:=L) (at':=at') (d:=at'-j) (i:=1) (by omega)).2;have a:=(KI (L:=L) (at':=at') (d:=at'-j) (i:=2) (by omega)).2;rw[show at'+0-(at'-j)=j by omega,Hb] at a0;rw[show at'+1-(at'-j)=j+1 by omega] at a1;rw[show at'+2-(at'-j)=j+2 by omega] at a;rw[a0,a1,a]
theorem Tv{L:List UInt8}{at' lo:Nat}(h3:at'+3<=L.length)(g:lo<=at'-255):∀c,lo+c<=at'->lp L at' (D8 L (CA L at') lo c).reverse (Bj L at' (at'-lo-c))=Cj L at'
 |0,h=>by
  simp only[D8,List.range'_zero,List.filter_nil,List.reverse_nil,lp];exact Ts (by omega)
 |c+1,h=>by
  have e:=Tv h3 g c (by omega);rw[PP,W6];have b:at'-lo-c=(at'-lo-(c+1))+1:=by omega
  have d:at'-(lo+c)=(at'-lo-(c+1))+1:=by omega
  by_cases hr:CA L (lo+c)=CA L at'
  ·rw[A4 hr,List.reverse_singleton,P5,lp];have hc:=(Tu h3 (by omega)).1 hr;by_cases hf:255<at'-(lo+c)
   ·rw[A4 hf];exact Ts (by omega)
   ·rw[A3 hf];have hb:(if(Bj L at' (at'-lo-(c+1))).1<Du L at' (at'-(lo+c)) then(Du L at' (at'-(lo+c)),at'-(lo+c)) else Bj L at' (at'-lo-(c+1)))=Bj L at' (at'-lo-c):=by
     rw[b,Bj,KJ,<-d];by_cases a:(Bj L at' (at'-lo-(c+1))).1<Du L at' (at'-(lo+c))
     ·rw[A4 a,A4 ⟨by omega,by omega,hc,a⟩]
     ·rw[A3 a,A3 (λh=>a h.2.2.2)]
    simp only[hb];split
    ·rename_i f;exact Z6 f (by omega)
    ·exact e
  ·rw[A3 hr,List.reverse_nil,B7];have hb:Bj L at' (at'-lo-(c+1))=Bj L at' (at'-lo-c):=by
    rw[b,Bj,KJ,A3];rintro⟨_,_,h,_⟩;rw[<-d] at h;exact hr ((Tu h3 (by omega)).2 h)
   rw[hb];exact e
theorem ae{L:List UInt8}{at' lo c:Nat}(h3:at'+3<=L.length)(a:lo<=at'-255)(hc:lo+c=at'):lp L at' (D8 L (CA L at') lo c).reverse (0,0)=Cj L at':=by
 have:=Tv h3 a c (by omega);rw[show at'-lo-c=0 by omega] at this;exact this
abbrev An:=Int×Int×Int
def AJ(t:An):Bool:=if t.2.1=0/\t.2.2=0 then decide (0<=t.1)&&decide (t.1<=255) else decide (t.1=0)&&decide (1<=t.2.1)&&decide (t.2.1<=255)&&decide (3<=t.2.2)&&decide (t.2.2<=18)
theorem Tw{t:An}(h:AJ t=true):(t.2.1=0/\t.2.2=0/\0<=t.1/\t.1<=255)\/(t.1=0/\1<=t.2.1/\t.2.1<=255/\3<=t.2.2/\t.2.2<=18):=by
 unfold AJ at h;split at h
 ·rename_i h1;simp at h;exact Or.inl ⟨h1.1,h1.2,h.1,h.2⟩
 ·simp at h;exact Or.inr ⟨h.1.1.1.1,h.1.1.1.2,h.1.1.2,h.1.2,h.2⟩
def CV(L:List UInt8):Nat->Nat->List An
 |0,_=>[]
 |f+1,i=>if i<L.length then
   if(Cj L i).1=0 then(((bt L i).toNat:Int),0,0)::CV L f (i+1)
   else(0,((Cj L i).2:Int),((Cj L i).1:Int))::CV L f (i+(Cj L i).1)
  else[]
def GB(d:Nat):Nat->List Int->List Int
 |0,o=>o
 |n+1,o=>GB d n (o++[o.getD (o.length-d) 0])
theorem Tx(d:Nat):∀n o,(GB d n o).length=o.length+n
 |0,o=>rfl
 |n+1,o=>by rw[GB,Tx d n];simp;omega
def Im(t:An)(out:List Int):List Int:=if t.2.2=0 then out++[t.1] else GB t.2.1.toNat t.2.2.toNat out
def Bk(most:Int):List An->List Int->Option (List Int)
 |[],out=>some out
 |t::ts,out=>if AJ t=true/\t.2.1<=out.length/\(out.length:Int)+max t.2.2 1<=most then Bk most ts (Im t out) else none
theorem PQ{t:An}(h:AJ t=true)(out:List Int):((Im t out).length:Int)=out.length+max t.2.2 1:=by
 rcases Tw h with h|h
 ·unfold Im;rw[A4 h.2.1];simp;omega
 ·unfold Im;rw[A3 (by omega),Tx];omega
def GC(L:List UInt8):List Int:=L.map λc=>(c.toNat:Int)
theorem Nn(L:List UInt8):(GC L).length=L.length:=by simp[GC]
theorem Ty(L:List UInt8)(i:Nat)(h:i<L.length):GC (L.take (i+1))=GC (L.take i)++[((bt L i).toNat:Int)]:=by
 unfold GC bt;rw[B1 h,D1,List.map_singleton];simp[List.getD,Bl h]
theorem am(L:List UInt8)(i k:Nat)(h:k<i)(a:i<=L.length):(GC (L.take i)).getD k 0=((bt L k).toNat:Int):=by
 unfold GC bt;simp only[List.getD,Hp,HP h,Bl (show k<L.length by omega),Q1,D0]
theorem Tz(L:List UInt8)(d:Nat):∀n i,d<=i->1<=d->i+n<=L.length->(∀k,k<n->bt L (i+k)=bt L (i+k-d))->GB d n (GC (L.take i))=GC (L.take (i+n))
 |0,i,_,_,_,_=>rfl
 |n+1,i,h1,h2,h3,h4=>by
  rw[GB,Nn,B5,show min i L.length=i by omega,am L i (i-d) (by omega) (by omega)];have h0:=h4 0 (by omega);rw[Hb] at h0;rw[<-h0,<-Ty L i (by omega),Tz L d n (i+1) (by omega) h2 (by omega) (λk hk=>by
   have:=h4 (k+1) (by omega);rw[show i+(k+1)=i+1+k by omega] at this;exact this),show i+1+n=i+(n+1) by omega]
theorem Np(L:List UInt8)(i:Nat):Cj L i=(0,0)\/(3<=(Cj L i).1/\(Cj L i).1<=18/\1<=(Cj L i).2/\(Cj L i).2<=255/\(Cj L i).2<=i/\i+(Cj L i).1<=L.length/\∀k,k<(Cj L i).1->bt L (i+k)=bt L (i+k-(Cj L i).2)):=by
 rcases PO L i 255 with h|h
 ·exact Or.inl h
 ·obtain⟨h1,h2,h3,h4,h5,h6⟩:=h;right;refine⟨h1,Tq L i 255,h2,h4,h5,?_,λk hk=>(KI (L:=L) (at':=i) (d:=(Bj L i 255).2) (by rw[h6];exact hk)).2⟩;have:=(KI (L:=L) (at':=i) (d:=(Bj L i 255).2) (i:=(Bj L i 255).1-1) (by rw[h6];omega)).1;show i+(Bj L i 255).1<=L.length;omega
theorem Nq(L:List UInt8):∀f i,∀t∈CV L f i,AJ t=true
 |0,i,t,h=>by simp[CV] at h
 |f+1,i,t,h=>by
  rw[CV] at h;split at h
  ·rcases Np L i with e|e
   ·rw[e] at h;simp only[if_true,Dn] at h;rcases h with rfl|h
    ·have:=(bt L i).toNat_lt;simp[AJ];omega
    ·exact Nq L f _ t h
   ·rw[A3 (by omega)] at h;rcases Dn.1 h with rfl|h
    ·simp only[AJ];rw[A3 (by simp;omega)];simp;omega
    ·exact Nq L f _ t h
  ·simp at h
theorem PR(L:List UInt8):∀f i,(CV L f i).length<=L.length-i
 |0,i=>by simp[CV]
 |f+1,i=>by
  rw[CV];split
  ·rcases Np L i with e|e
   ·rw[e];simp only[if_true,BV];have:=PR L f (i+1);omega
   ·rw[A3 (by omega),BV];have:=PR L f (i+(Cj L i).1);omega
  ·simp
theorem PS(L:List UInt8)(most:Int)(hm:(L.length:Int)<=most):∀f i,L.length<=i+f->i<=L.length->Bk most (CV L f i) (GC (L.take i))=some (GC L)
 |0,i,h,h2=>by
  obtain rfl:i=L.length:=by omega
  rw[CV,Bk,D4]
 |f+1,i,h,h2=>by
  rw[CV];by_cases b:i<L.length
  ·rw[A4 b];have a:=Nq L (f+1) i;rw[CV,A4 b] at a;rcases Np L i with e|e
   ·rw[e] at a⊢;simp only[if_true] at a⊢;rw[Bk,A4 ⟨a _ (by simp),by simp,by rw[Nn,B5];simp;omega⟩];simp only[Im,if_true];rw[<-Ty L i b];exact PS L most hm f (i+1) (by omega) (by omega)
   ·rw[A3 (by omega)] at a⊢;rw[Bk,A4 ⟨a _ (by simp),by rw[Nn,B5];simp;omega,by rw[Nn,B5];simp only;omega⟩];simp only[Im];rw[A3 (by omega),BY,BY,Tz L _ _ i e.2.2.2.2.1 e.2.2.1 e.2.2.2.2.2.1 e.2.2.2.2.2.2];exact PS L most hm f _ (by omega) e.2.2.2.2.2.1
  ·rw[A3 b];obtain rfl:i=L.length:=by omega
   rw[Bk,D4]
inductive HT where
 |leaf (w:Int) (n:Nat)
 |node (l r:HT)
def wt:HT->Int
 | .leaf w _=>w
 | .node l a=>wt l+wt a
def nm:HT->Nat
 | .leaf _ n=>n
 | .node l a=>min (nm l) (nm a)
def At:HT->List Nat
 | .leaf _ n=>[n]
 | .node l a=>At l++At a
def D9(a b:HT):Bool:=decide (wt a<wt b\/(wt a=wt b/\nm a<nm b))
theorem aw{a b:HT}:D9 a b=true↔(wt a<wt b\/(wt a=wt b/\nm a<nm b)):=by simp[D9]
theorem I5{a b:HT}:D9 a b=false↔(wt b<wt a\/(wt a=wt b/\nm b<=nm a)):=by
 rw[D9,decide_eq_false_iff_not];omega
def Bv(a b:HT):Prop:=D9 b a=false
theorem LQ(a:HT):Bv a a:=I5.2 (by omega)
theorem KK{a b c:HT}(h:Bv a b)(k:Bv b c):Bv a c:=by
 have h1:=I5.1 h;have h2:=I5.1 k;exact I5.2 (by omega)
theorem Nr{a b:HT}(h:D9 a b=true):Bv a b:=by
 have:=aw.1 h;exact I5.2 (by omega)
theorem TA{a b:HT}(h:Bv a b):wt a<=wt b:=by
 have:=I5.1 h;omega
theorem az{a b:HT}(h:Bv a b)(k:Bv b a):nm a=nm b:=by
 have h1:=I5.1 h;have h2:=I5.1 k;omega
inductive Er:List HT→HT→Prop where
 |one (t:HT):Er [t] t
 |step {F:List HT} {a b:HT} {R:List HT} {T:HT} (hp:F.Perm (a::b::R)) (ha:∀x∈b::R,Bv a x) (hb:∀x∈R,Bv b x) (h:Er (.node a b::R) T):Er F T
def F8(F:List HT):Prop:=(F.map nm).Nodup
theorem TB{F a:List HT}(h:F.Perm a):F8 F->F8 a:=(h.map nm).nodup_iff.1
theorem aA{a b:HT}{R:List HT}(h:F8 (a::b::R)):F8 (.node a b::R):=by
 unfold F8 at*;simp only[F4,VC,Dn,not_or] at h⊢;obtain⟨⟨h1,h2⟩,h3,h4⟩:=h;refine⟨?_,h4⟩;rcases Nat.le_total (nm a) (nm b) with q|q
 ·rw[show nm (.node a b)=nm a from HR q];exact h2
 ·rw[show nm (.node a b)=nm b from Nat.min_eq_right q];exact h3
theorem aB{F:List HT}(h:F8 F){a b:HT}(ha:a∈F)(hb:b∈F)(e:nm a=nm b):a=b:=by
 unfold F8 at h;induction F with
 |nil=>cases ha
 |cons x F f=>
  simp only[F4,VC,E1,not_exists,not_and] at h;rcases Dn.1 ha with c|c<;>rcases Dn.1 hb with d|d
  ·rw[c,d]
  ·rw[c] at e;exact absurd e.symm (h.1 _ d)
  ·rw[d] at e;exact absurd e (h.1 _ c)
  ·exact f h.2 c d
theorem TC{F:List HT}(h:F8 F){a b:HT}(ha:a∈F)(hb:b∈F)(c:∀x∈F,Bv a x)(lb:∀x∈F,Bv b x):a=b:=
 aB h ha hb (az (c b hb) (lb a ha))
theorem Ns{a:HT}{c:List HT}(h:∀x∈c,Bv a x):∀x∈a::c,Bv a x:=λx b=>by
 rcases Dn.1 b with rfl|b
 ·exact LQ _
 ·exact h x b
theorem aD{F:List HT}{T:HT}(h:Er F T):∀{c:List HT} {d:HT},F.Perm c->F8 F->Er c d->T=d:=by
 induction h with
 |one t=>
  intro c d hp _ g;obtain rfl:=W4.1 hp.symm;cases g with
  |one=>rfl
  |step w=>have:=w.length_eq;simp at this
 | @step F a b R T hp ha hb h y=>
   intro c d m s g;cases g with
   |one t=>have:=(hp.symm.trans m).length_eq;simp at this
   | @step _ k l R' _ v r u p=>
     have f:(a::b::R).Perm (k::l::R'):=hp.symm.trans (m.trans v);have e:=TB hp s;have z:=TB f e;have n:a=k:=TC e (Hh ..) (f.mem_iff.2 (Hh ..)) (Ns ha) (λx j=>Ns r x (f.mem_iff.1 j));subst n;have i:=f.cons_inv;have q:F8 (b::R):=(VC.1 (show((nm a)::(b::R).map nm).Nodup from e)).2;have o:b=l:=TC q (Hh ..) (i.mem_iff.2 (Hh ..)) (Ns hb) (λx j=>Ns u x (i.mem_iff.1 j));subst o;exact y (i.cons_inv.cons _) (aA e) p
theorem TD{F a:List HT}{T:HT}(h:Er F T)(hp:a.Perm F):Er a T:=by
 cases h with
 |one t=>obtain rfl:=W4.1 hp;exact .one _
 |step b ha hb h=>exact .step (hp.trans b) ha hb h
def BD:HT->Int->List Int->List Int
 | .leaf _ n,d,L=>L.set n d
 | .node l a,d,L=>BD a (d+1) (BD l (d+1) L)
theorem I6(t:HT):∀d L,(BD t d L).length=L.length:=by
 induction t with
 |leaf w n=>intro d L;simp[BD]
 |node l c a b=>intro d L;rw[BD,b,a]
theorem LR(t:HT):∀d L s,s∉At t->(BD t d L)[s]?=L[s]?:=by
 induction t with
 |leaf w n=>
  intro d L s hs;rw[BD,N6];intro e;exact hs (by rw[At,e];exact B6.2 rfl)
 |node l c a b=>
  intro d L s hs;rw[At,GA,not_or] at hs;rw[BD,b _ _ _ hs.2,a _ _ _ hs.1]
def BT(f:List Int):List HT:=(List.range f.length).filterMap λi=>if 0<f[i]?.getD 0 then some (.leaf (f[i]?.getD 0) i) else none
theorem In{f:List Int}{t:HT}:t∈BT f↔∃i,∃a:i<f.length,0<f[i]/\t= .leaf f[i] i:=by
 unfold BT;rw[List.mem_filterMap];constructor
 ·rintro⟨i,a,h⟩;have b:=HW.1 a;rw[Bl b,D0] at h;split at h
  ·rename_i h0;injection h with h;exact⟨i,b,h0,h.symm⟩
  ·cases h
 ·rintro⟨i,a,h0,rfl⟩;exact⟨i,HW.2 a,by rw[Bl a,D0,A4 h0]⟩
def Dv(f:List Int)(k:Nat):List HT:=(List.range k).filterMap λi=>if 0<f[i]?.getD 0 then some (.leaf (f[i]?.getD 0) i) else none
theorem TE(f:List Int):Dv f 0=[]:=rfl
theorem Nt(f:List Int):Dv f f.length=BT f:=rfl
theorem PT{f:List Int}{k:Nat}(hk:k<f.length)(h:0<f[k]):Dv f (k+1)=Dv f k++[.leaf f[k] k]:=by
 unfold Dv;rw[HL,List.filterMap_append];simp[Bl hk,h]
theorem PU{f:List Int}{k:Nat}(hk:k<f.length)(h:¬0<f[k]):Dv f (k+1)=Dv f k:=by
 unfold Dv;rw[HL,List.filterMap_append];simp[Bl hk,h]
theorem TF(f:List Int)(k:Nat):(Dv f k).length<=k:=by
 unfold Dv;have:=List.length_filterMap_le (λi=>if 0<f[i]?.getD 0 then some (HT.leaf (f[i]?.getD 0) i) else none) (List.range k)
 rwa [LA] at this
theorem aE(f:List Int):∀k,((Dv f k).flatMap At).Nodup/\∀s∈(Dv f k).flatMap At,s<k:=by
 intro k;induction k with
 |zero=>exact⟨List.nodup_nil,λs hs=>by cases hs⟩
 |succ k c=>
  have e:Dv f (k+1)=Dv f k++(if 0<f[k]?.getD 0 then[.leaf (f[k]?.getD 0) k] else[]):=by
   unfold Dv;rw[HL,List.filterMap_append];by_cases h:0<f[k]?.getD 0<;>simp[h]
  rw[e,HB];by_cases h:0<f[k]?.getD 0
  ·rw[A4 h];have d:([HT.leaf (f[k]?.getD 0) k]).flatMap At=[k]:=rfl;rw[d];refine⟨List.nodup_append.2 ⟨c.1,by simp,λa ha b hb=>?_⟩,λs hs=>?_⟩
   ·rw[B6.1 hb];have:=c.2 a ha;omega
   ·rcases GA.1 hs with h|h
    ·have:=c.2 s h;omega
    ·rw[B6.1 h];omega
  ·rw[A3 h];simp only[T6,E5];exact⟨c.1,λs hs=>by have:=c.2 s hs;omega⟩
theorem PV(f:List Int):((BT f).flatMap At).Nodup/\∀s∈(BT f).flatMap At,s<f.length:=aE f f.length
theorem TG(f:List Int):(BT f).map nm=(BT f).flatMap At:=by
 have:∀a:List HT,(∀t∈a,∃w n,t= .leaf w n)->a.map nm=a.flatMap At:=by
  intro a;induction a with
  |nil=>intro _;rfl
  |cons t a c=>
   intro h;obtain⟨w,n,rfl⟩:=h t (Hh ..);rw[F4,G8,c (λt b=>h t (G2 _ b))];rfl
 exact this _ λt b=>by obtain⟨i,_,_,rfl⟩:=In.1 b;exact⟨_,_,rfl⟩
theorem aG(f:List Int):F8 (BT f):=by
 unfold F8;rw[TG];exact(PV f).1
theorem Nu{F a:List HT}(h:F.Perm a):(F.flatMap At).Perm (a.flatMap At):=h.flatMap_right At
theorem TH(a b:HT)(R:List HT):(HT.node a b::R).flatMap At=(a::b::R).flatMap At:=by simp[At]
theorem aH{F:List HT}{T:HT}(h:Er F T):(At T).Perm (F.flatMap At):=by
 induction h with
 |one t=>simp
 |step hp _ _ _ a=>
  rw[TH] at a;exact a.trans (Nu hp).symm
theorem aI{F:List HT}{T:HT}(h:Er F T)(h2:2<=F.length):∃l d,T= .node l d:=by
 have key:∀{F:List HT} {T:HT},Er F T->(∀t∈F,True)->(2<=F.length\/∃l d,F=[.node l d])->∃l d,T= .node l d:=by
  intro F T h;induction h with
  |one t=>
   intro _ h;rcases h with h|⟨l,d,h⟩
   ·simp at h
   ·injection h with h _;exact⟨l,d,h⟩
  | @step F a b R T hp _ _ _ e=>
    intro _ _;apply e (λ_ _=>trivial);rcases R with _|⟨c,R⟩
    ·right;exact⟨a,b,rfl⟩
    ·left;simp
 exact key h (λ_ _=>trivial) (Or.inl h2)
def Io(f L:List Int):Prop:=
 (BT f=[]/\L=List.replicate f.length 0)\/(∃w n,BT f=[.leaf w n]/\L=(List.replicate f.length 0).set n 1)\/
 (2<=(BT f).length/\∃T,Er (BT f) T/\L=BD T 0 (List.replicate f.length 0))
theorem TI{f L:List Int}(h:Io f L):L.length=f.length:=by
 rcases h with⟨_,rfl⟩|⟨_,_,_,rfl⟩|⟨_,_,_,rfl⟩
 ·simp
 ·simp
 ·rw[I6];simp
theorem PW{f L b:List Int}(h:Io f L)(c:Io f b):L=b:=by
 rcases h with⟨h1,rfl⟩|⟨w,n,h1,rfl⟩|⟨h1,T,d,rfl⟩<;>rcases c with⟨a,rfl⟩|⟨w',i,a,rfl⟩|⟨a,g,e,rfl⟩
 ·rfl
 ·rw[h1] at a;cases a
 ·rw[h1] at a;simp at a
 ·rw[h1] at a;cases a
 ·rw[h1] at a;injection a with a _;injection a with _ k2;rw[k2]
 ·rw[h1] at a;simp at a
 ·rw[a] at h1;simp at h1
 ·rw[a] at h1;simp at h1
 ·rw[aD d (List.Perm.refl _) (aG f) e]
def Ck:HT->Nat
 | .leaf _ _=>0
 | .node l a=>max (Ck l) (Ck a)+1
def fb:Nat->Int
 |0=>1
 |1=>2
 |n+2=>fb (n+1)+fb n
theorem aJ:∀n,1<=fb n/\fb n<=fb (n+1):=by
 intro n;induction n with
 |zero=>decide
 |succ n a=>exact⟨by omega,by show fb (n+1)<=fb (n+1)+fb n;omega⟩
theorem aN{m n:Nat}(h:m<=n):fb m<=fb n:=by
 induction n with
 |zero=>obtain rfl:m=0:=by omega
        exact E4 _
 |succ n a=>
  by_cases e:m=n+1
  ·subst e;exact E4 _
  ·have:=a (by omega);have:=(aJ n).2;omega
theorem aO:fb 16=2584:=by decide
def mc:HT->Int
 | .leaf _ _=>0
 | .node l a=>max (wt l) (wt a)
def LS(t:HT):Prop:=0<wt t/\fb (Ck t)<=wt t/\(1<=Ck t->fb (Ck t-1)<=mc t)
def PX(t u:HT):Prop:=mc t<=wt u/\mc u<=wt t
def Nv(F:List HT):Prop:=(∀t∈F,LS t)/\F.Pairwise PX
theorem aQ{F a:List HT}(h:F.Perm a)(b:Nv F):Nv a:=
 ⟨λt d=>b.1 t (h.mem_iff.2 d),(h.pairwise_iff λc=>⟨c.2,c.1⟩).1 b.2⟩
theorem aR{a b:HT}(ha:LS a)(hb:LS b)(hf:PX a b):LS (.node a b):=by
 obtain⟨a1,d,e⟩:=ha;obtain⟨b1,b2,f⟩:=hb;have key:∀x y:HT,0<wt x->fb (Ck x)<=wt x->(1<=Ck x->fb (Ck x-1)<=mc x)->0<wt y->mc x<=wt y->fb (Ck x+1)<=wt x+wt y:=by
  intro x y k g i l j;cases c:Ck x with
  |zero=>have:fb (0+1)=2:=rfl;omega
  |succ n=>
   have h3:=i (by omega);rw[c,S0] at h3;rw[c] at g;show fb (n+1)+fb n<=_;omega
 refine⟨by show 0<wt a+wt b;omega,?_,λ_=>?_⟩
 ·show fb (max (Ck a) (Ck b)+1)<=wt a+wt b;rcases Nat.le_total (Ck a) (Ck b) with h|h
  ·rw[Nat.max_eq_right h];have:=key b a b1 b2 f a1 hf.2;omega
  ·rw[Nat.max_eq_left h];exact key a b a1 d e b1 hf.1
 ·show fb (max (Ck a) (Ck b)+1-1)<=max (wt a) (wt b);rw[S0];rcases Nat.le_total (Ck a) (Ck b) with h|h
  ·rw[Nat.max_eq_right h];omega
  ·rw[Nat.max_eq_left h];omega
theorem aS{F:List HT}{T:HT}(h:Er F T):Nv F->LS T:=by
 induction h with
 |one t=>intro h;exact h.1 t (B6.2 rfl)
 | @step F a b R T hp ha hb _ k=>
   intro i;have j:=aQ hp i;obtain⟨h1,h2⟩:=j;have f:=h1 a (Hh ..);have g:=h1 b (G2 _ (Hh ..));have e:=I4.1 h2;have l:=I4.1 e.2;apply k;refine⟨λt c=>?_,I4.2 ⟨λu d=>?_,l.2⟩⟩
   ·rcases Dn.1 c with rfl|c
    ·exact aR f g (e.1 b (Hh ..))
    ·exact h1 t (G2 _ (G2 _ c))
   ·have m:=TA (ha u (G2 _ d));have n:=TA (hb u d);have o:=(e.1 u (G2 _ d)).2;have:=f.1;have:=g.1;exact⟨by show max (wt a) (wt b)<=wt u;omega,by show mc u<=wt a+wt b;omega⟩
theorem aW(f:List Int):Nv (BT f):=by
 have hl:∀t∈BT f,0<wt t/\Ck t=0/\mc t=0:=λt b=>by
  obtain⟨i,_,h,rfl⟩:=In.1 b;exact⟨h,rfl,rfl⟩
 refine⟨λt b=>?_,?_⟩
 ·obtain⟨h1,h2,h3⟩:=hl t b;refine⟨h1,by rw[h2];show 1<=wt t;omega,λh=>by omega⟩
 ·have:∀a:List HT,(∀t∈a,0<wt t/\Ck t=0/\mc t=0)->a.Pairwise PX:=by
   intro a;induction a with
   |nil=>intro _;exact List.Pairwise.nil
   |cons t a e=>
    intro h;refine I4.2 ⟨λu c=>?_,e λx d=>h x (G2 _ d)⟩;obtain⟨a1,_,g⟩:=h t (Hh ..);obtain⟨b1,_,j⟩:=h u (G2 _ c);exact⟨by omega,by omega⟩
  exact this _ hl
theorem aY(t:HT):∀(d:Int) L,∀x∈BD t d L,x∈L\/(d<=x/\x<=d+Ck t):=by
 induction t with
 |leaf w n=>
  intro d L x a;rcases W1 a with h|h
  ·exact Or.inl h
  ·right;subst h;simp[Ck]
 |node l b c e=>
  intro d L x a;have f:((Ck (.node l b):Nat):Int)=max (Ck l:Int) (Ck b)+1:=by show(((max (Ck l) (Ck b)+1:Nat)):Int)=_;omega
  rcases e _ _ x a with h|h
  ·rcases c _ _ x h with h|h
   ·exact Or.inl h
   ·right;omega
  ·right;omega
theorem aZ{F:List HT}{T:HT}(h:Er F T):wt T=(F.map wt).sum:=by
 have hs:∀{F a:List HT},F.Perm a->(F.map wt).sum=(a.map wt).sum:=by
  intro F a h;induction h with
  |nil=>rfl
  |cons x _ b=>simp only[F4,L3,b]
  |swap x y l=>simp only[F4,L3];omega
  |trans _ _ c d=>exact c.trans d
 induction h with
 |one t=>simp
 |step hp _ _ _ b=>
  rw[b,hs hp];simp only[F4,L3,wt];omega
theorem ba(f:List Int)(hf:∀x∈f,0<=x):∀k,k<=f.length->((Dv f k).map wt).sum=(f.take k).sum:=by
 intro k;induction k with
 |zero=>intro _;simp[TE]
 |succ k b=>
  intro hk;have a:k<f.length:=by omega
  have h0:=hf f[k] (BA a);rw[B1 a,List.sum_append,<-b (by omega)];by_cases h:0<f[k]
  ·rw[PT a h,D1,List.sum_append];simp[wt]
  ·rw[PU a h];simp;omega
theorem bd(f:List Int)(hf:∀x∈f,0<=x):((BT f).map wt).sum=f.sum:=by
 have:=ba f hf f.length (A1 _)
 rwa [Nt,D4] at this
def I7(L:List Int):Prop:=∀x∈L,x<=15
def halve(f:List Int):List Int:=f.map λn=>(n+1)/2
theorem G4(f:List Int):(halve f).length=f.length:=by simp[halve]
theorem PY{f:List Int}(hf:∀x∈f,0<=x):∀x∈halve f,0<=x:=λx b=>by
 obtain⟨n,a,rfl⟩:=E1.1 b;have:=hf n a;omega
theorem be{f:List Int}{m:Int}(hm:1<=m)(hf:∀x∈f,x<=m):∀x∈halve f,x<=m:=λx b=>by
 obtain⟨n,a,rfl⟩:=E1.1 b;have:=hf n a;omega
theorem bf(f:List Int)(hf:∀x∈f,0<=x):(halve f).sum<=f.sum/\((halve f).sum=f.sum->f.sum<=f.length):=by
 induction f with
 |nil=>simp[halve]
 |cons x f a=>
  obtain⟨h1,h2⟩:=a λy hy=>hf y (G2 _ hy);have b:=hf x (Hh ..);have e:halve (x::f)=(x+1)/2::halve f:=rfl;rw[e];simp only[L3,BV];refine⟨by omega,λh=>?_⟩;have h3:=h2 (by omega);omega
theorem bg{f L:List Int}(h:Io f L)(hf:∀x∈f,0<=x)(hl:f.length<=1000)(hd:¬I7 L):(halve f).sum<f.sum:=by
 have c:=bf f hf;have d:2584<=f.sum:=by
  have a:∃x∈L,15<x:=by
   unfold I7 at hd;simp only[Classical.not_forall] at hd;obtain⟨x,a,h⟩:=hd;exact⟨x,a,by omega⟩
  obtain⟨x,a,g⟩:=a;rcases h with⟨_,rfl⟩|⟨_,_,_,rfl⟩|⟨_,T,b,rfl⟩
  ·have:=RV a;omega
  ·rcases W1 a with h|h
   ·have:=RV h;omega
   ·omega
  ·rcases aY T 0 _ x a with h|h
   ·have:=RV h;omega
   ·have h1:=(aS b (aW f)).2.1;rw[aZ b,bd f hf] at h1;have h2:=aN (m:=16) (n:=Ck T) (by omega);rw[aO] at h2;omega
 have:f.sum≠(halve f).sum:=λe=>by
  have:=c.2 e.symm;omega
 omega
inductive Ea:List Int→List Int→Prop where
 |stop {f L:List Int} (h:Io f L) (hm:I7 L):Ea f L
 |halve {f L0 L:List Int} (h:Io f L0) (hd:¬I7 L0) (hr:Ea (halve f) L):Ea f L
theorem bh{f L:List Int}(h:Ea f L):∀{a},Ea f a->L=a:=by
 induction h with
 |stop h hm=>
  intro a b;cases b with
  |stop h2 _=>exact PW h h2
  |halve h2 hd _=>obtain rfl:=PW h h2;exact absurd hm hd
 |halve h hd _ c=>
  intro a b;cases b with
  |stop h2 hm=>obtain rfl:=PW h h2;exact absurd hm hd
  |halve _ _ hr=>exact c hr
theorem bi{f L:List Int}(h:Ea f L):L.length=f.length:=by
 induction h with
 |stop h _=>exact TI h
 |halve _ _ _ a=>rw[a,G4]
theorem bj{f:List Int}{i:Nat}(a:i<f.length)(h0:0<=f[i]):0<(halve f)[i]'(by rw[G4];exact a)↔0<f[i]:=by
 simp only[halve,HJ];omega
theorem bk{f L:List Int}(h:Ea f L):∃g,Io g L/\I7 L/\g.length=f.length/\((∀x∈f,0<=x)->(∀x∈g,0<=x)/\∀i (a:i<f.length) (b:i<g.length),0<g[i]↔0<f[i]):=by
 induction h with
 | @stop f L h hm=>exact⟨f,h,hm,rfl,λhf=>⟨hf,λi a b=>Iff.rfl⟩⟩
 | @halve f j L h hd _ c=>
   obtain⟨g,h1,h2,h3,h4⟩:=c;refine⟨g,h1,h2,by rw[h3,G4],λhf=>?_⟩;obtain⟨d,e⟩:=h4 (PY hf);refine⟨d,λi a b=>?_⟩;have:=e i (by rw[G4];exact a) b;rw[this];exact bj a (hf _ (BA a))
end Go.Proofs.YtmajkjjjfodhlaaGreatDoor
