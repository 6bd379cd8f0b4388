/- Part Mai. No condition of its own. -/
import Derived.Test.YtmajkjjjfodhlaaGreatDoorShelf
import Derived.Test.YtmajkjjjfodhlaaGreatDoorMah
namespace Go.Proofs.YtmajkjjjfodhlaaGreatDoor
open Go.RowKit Tryz
set_option linter.all false
set_option maxRecDepth 100000
set_option maxHeartbeats 8000000
theorem P9:type_of%@Nat.pow_succ:=@Nat.pow_succ
theorem S4:type_of%@Nat.mod_eq_of_lt:=@Nat.mod_eq_of_lt
theorem T0:type_of%@Go.u32_xor_nat:=@Go.u32_xor_nat
theorem T3:type_of%@List.drop_eq_getElem_cons:=@List.drop_eq_getElem_cons
theorem Wm:type_of%@ByteArray.toList_eq:=@ByteArray.toList_eq
theorem Md:(prog.info? 5).map (λi=>(i.zero,i.size,i.bytes))=some (some (.int .u8 0),1,1):=by kernel_rfl
def UH(a:Option (List Int)):ByteArray:=match a with|some o=>strOfNums o|none=>ByteArray.empty
def UI(a:Option (List Int)):Bool:=a.isSome
theorem JR{w:World}{v:Value}{xs:List Int}(h:Av w v 1 (λx=>[.int .u8 x]) xs):(convert 155 9 v).run prog w= .ok (.string (strOfNums xs)) w:=by
 rcases Da h with⟨rfl,c,cap,rfl,_⟩|⟨_,b,off,cap,rfl,_,_,hc⟩
 ·exact run_convert_bytes_zero (P:=prog) w 155 5 underlying155 underlying5 c cap 9 underlying9
 ·exact run_convert_bytes_arg (P:=prog) w 155 5 underlying155 underlying5 b off xs.length cap xs rfl (λi a=>by
   rw[hc i a,B9,Bl a];rfl) 9 underlying9
theorem UJ{w a b:World}{o:Obj}(h:Below w w a)(h2:Below (a.alloc o).heap.size (a.alloc o) b):Below w w b:=
 (h.alloc h.size o).trans (h2.mono (by have:=h.size;simp;omega))
theorem UK(v:Value)(l:List An)(most:Int)(w:World)(ax:Jf w v l)(hl:l.length<=100000):
 Calls prog 306 #[v, most] w λe w'=>e= .returned (.tuple #[.string (UH (Bk most l [])), .bool (UI (Bk most l []))])/\Below w w w':=by
 obtain⟨i0,aj,ay,aC,aF⟩:=BW Md;obtain⟨a0,c0,rfl,_⟩:=id ax;go_enter func306,ntmps306;go_wp2_with fail;go_loopw [6,11] (λS a4 wr=>∃(k:Nat) (out:List Int),a4= .int .i64 k/\k<=l.length/\Bk most (l.drop k) out=Bk most l []/\out.length<=18*k/\(∀x∈out,0<=x/\x<256)/\wr.ownsRow w.heap.size 5 1 S out.length (out.map (Value.int .u8))/\Below w w wr) (λ_ a4 _=>l.length-(intOf a4).toNat)
 case atStart=>exact⟨0,[],rfl,A7 _,rfl,A7 _,by simp,C2 _ _ _ _,A2 _ _⟩
 case round=>
  obtain⟨k,out,rfl,hk,m,bT,I,z,E⟩:=hrel;obtain⟨a1,c1,rfl,bP,_⟩:=Aw z;obtain⟨W,N,r,a9⟩:=Hx4 m z E I;clear m z E I;by_cases b3:k=l.length
  ·subst b3;have hr:Bk most l []=some out:=by rw[<-W.out,List.drop_length];rfl
   have i:=A0 hr;clear hr;have bK:=JR (Cr N).1;go_wp2_with fail;refine A5 (C3 rfl _ _ _) rfl ?_;rw[i.out];exact⟨rfl,r⟩
  ·have C:k<l.length:=by omega
   have m:=W.out;rw[T3 C,Bk] at m;obtain⟨bc,bp,b7,bM,bN,a3⟩:=ax;injection b7 with q1 q2 q3;subst q1 q3;rcases a3 with a3|⟨b,off,b0,Z,F⟩
   ·rw[a3] at C;exact absurd C (by simp)
   have aa:wr.cell? ⟨b,off+k*3,none⟩=some (.int .i64 l[k].1):=by rw[r.out.cell (p:=⟨b,off+k*3,none⟩) Z];simpa using F k C 0 (by omega)
   have ab:wr.cell? ⟨b,off+k*3+1,none⟩=some (.int .i64 l[k].2.1):=by rw[r.out.cell (p:=⟨b,off+k*3+1,none⟩) Z];simpa[Hl] using F k C 1 (by omega)
   have ac:wr.cell? ⟨b,off+k*3+2,none⟩=some (.int .i64 l[k].2.2):=by rw[r.out.cell (p:=⟨b,off+k*3+2,none⟩) Z];simpa[Hl] using F k C 2 (by omega)
   subst b0;generalize l[k]=t at*;obtain⟨c,n,q⟩:=t;dsimp only at aa ab ac m;obtain⟨A,Hcell⟩:=Hx2 m F;clear m F W;have al:=Qu c n q (wr.alloc (.cells #[c, n, q] 145));go_wp2_with fail;refine al.mono ?_;rintro e L ⟨rfl,s⟩;have hp:wr<L.heap.size:=by have:=s.size;simp at this;omega
   have aX:L.cell? ⟨wr,0,none⟩=some (.int .i64 c):=by rw[s.cell (p:=⟨wr,0,none⟩) (by simp),G7];rfl
   have g1:L.cell? ⟨wr,1,none⟩=some (.int .i64 n):=by rw[s.cell (p:=⟨wr,1,none⟩) (by simp),G7];rfl
   have g2:L.cell? ⟨wr,2,none⟩=some (.int .i64 q):=by rw[s.cell (p:=⟨wr,2,none⟩) (by simp),G7];rfl
   obtain⟨O,f,aT⟩:=Hx3 (Ag (N.alloc (.cells #[c, n, q] 145)) s) (UJ r s) (λg (u:(Value.slice a1 out.length c1).ownBlock=some g)=>(N.lt g u).2);have bV:=r.size;clear al aa ab ac r N s;generalize wr.heap.size=p at*;by_cases hm:AJ (c,n,q)=true
   ·rw[hm];rcases Tw hm with⟨rfl,rfl,bu,bw⟩|⟨rfl,ah,ai,ao,an⟩
    ·by_cases b5:most<(out.length:Int)+1
     ·have hr:Bk most l []=none:=by
       rw[<-A.out,A3];rintro⟨_,_,h⟩;have h:(out.length:Int)+max (0:Int) 1<=most:=h;omega
      have i:=A0 hr;clear hr;go_wp2_with fail;refine A5 (C3 rfl _ _ _) rfl ?_;rw[i.out];exact⟨rfl,f⟩
     ·have K:Bk most (l.drop (k+1)) (out++[c])=Bk most l []:=by
       rw[<-A.out,A4 ⟨hm,by show(0:Int)<=_;omega,by show(out.length:Int)+max (0:Int) 1<=most;omega⟩];rfl
      have X:=A0 K;clear K hm;have c3:IntKind.u8.wrap c=c:=by rw[show IntKind.u8.wrap c=c%256 from rfl];omega
      go_wp2_with (first
       |(at_builtin;refine F0 _ rfl _ _ 155 rfl w.heap.size 5 i0 (.int .u8 0) 1 1 underlying155 aj ay aC aF rfl (by decide) (.slice a1 out.length c1) _ _ rfl (O.alloc _) ⟨L,0,none⟩ 1 1 [.int .u8 c] rfl rfl (Hx _ _ _) (by simp[Value.oneCell']) (by simp[maxLen];omega) (by omega) (by have:=f.size;simp;omega) ?_;intro aL a6 J G _ R)
       |fail)
      obtain⟨U,V⟩:=Hx2 ((f.alloc f.size _).grown G (by have:=f.size;simp;omega) (λb a2=>Ah O b a2)) J;clear J G R;go_wp2_with fail;exact⟨⟨k+1,out++[c],by go_num,by omega,X,by simp;omega,by
       intro x m;rcases GA.1 m with h|h
       ·exact a9 x h
       ·rw[B6.1 h];omega,by rw[A9,D1];exact V,U⟩,by simp[intOf];omega⟩
    ·have ah:(1:Int)<=n:=ah;have ai:n<=(255:Int):=ai;have ao:(3:Int)<=q:=ao;have an:q<=(18:Int):=an;obtain⟨D,rfl⟩:=G0 (a:=n) (by omega);obtain⟨d,rfl⟩:=G0 (a:=q) (by omega);by_cases bs:out.length<D
     ·have hr:Bk most l []=none:=by
       rw[<-A.out,A3];rintro⟨_,h,_⟩;have h:(D:Int)<=(out.length:Int):=h;omega
      have i:=A0 hr;clear hr hm;go_wp2_with fail;refine A5 (C3 rfl _ _ _) rfl ?_;rw[i.out];exact⟨rfl,f⟩
     ·by_cases b5:most<(out.length:Int)+d
      ·have hr:Bk most l []=none:=by
        rw[<-A.out,A3];rintro⟨_,_,h⟩;have h:(out.length:Int)+max (d:Int) 1<=most:=h;omega
       have i:=A0 hr;clear hr hm;go_wp2_with fail;refine A5 (C3 rfl _ _ _) rfl ?_;rw[i.out];exact⟨rfl,f⟩
      ·have K:Bk most (l.drop (k+1)) (GB D d out)=Bk most l []:=by
        rw[<-A.out,A4 ⟨hm,by show(D:Int)<=_;omega,by show(out.length:Int)+max (d:Int) 1<=most;omega⟩];rw[Im,A3 (by show¬(d:Int)=0;omega)];rfl
       have X:=A0 K;clear K hm;go_wp2_with fail;go_loopw [6,46] (λS a5 T=>∃(j:Nat) (o:List Int),a5= .int .i64 j/\j<=d/\GB D (d-j) o=GB D d out/\o.length=out.length+j/\(∀x∈o,0<=x/\x<256)/\T.ownsRow w.heap.size 5 1 S o.length (o.map (Value.int .u8))/\(∀g,S.ownBlock=some g->g<p\/p<g)/\p<T.heap.size/\T.cell? ⟨p,1,none⟩=some (.int .i64 D)/\Below w w T) (λ_ a5 _=>d-(intOf a5).toNat)
       case atStart=>exact⟨0,out,rfl,A7 _,rfl,rfl,a9,O,λg u=>Or.inl (aT g u),hp,g1,f⟩
       case round=>
        obtain⟨j,o,rfl,bL,B,au,I,z,ap,av,ad,E⟩:=hrel;obtain⟨bl,c2,rfl,bR,_⟩:=Aw z;obtain⟨a7,P,M,Y,a8,aV⟩:=Hx6 B z E I ap au;have bO:o.length<=18*(k+1):=by omega
        have bt:D<=o.length:=by omega
        clear B z E I ap O f aX g1 g2 au;by_cases b4:j=d
        ·subst b4;have ar:GB D j out=o:=by rw[<-a7.out,Hr];rfl
         have aU:=A0 ar;clear ar;go_wp2_with fail;exact⟨⟨k+1,o,by go_num,by omega,by rw[<-aU.out];exact X,by omega,Y,P,M⟩,by simp[intOf];omega⟩
        ·have H:o.length-D<o.length:=by omega
         have B:=a7.out;rw[show d-j=(d-(j+1))+1 by omega,GB,B9,Bl H,D0] at B;have b9:=Y _ (BA H);obtain⟨h0,_⟩|⟨_,b2,aK,bq,b8,ag,bx,af⟩:=Da (Cr P).1
         ·rw[h0] at H;exact absurd H (by simp)
         injection b8 with r1 r2 r3;subst r1 r3;have c4:=af (o.length-D) H;generalize o[o.length-D]=x at*;obtain⟨aP,bb⟩:=Hx2 B ag;have bX:((o.length:Int) -(D:Int)).toNat=o.length-D:=by omega
         clear B af ag;go_wp2_with (first
          |(at_builtin;refine F0 _ rfl _ _ 155 rfl w.heap.size 5 i0 (.int .u8 0) 1 1 underlying155 aj ay aC aF rfl (by decide) (.slice (some ⟨b2,aK,none⟩) o.length c2) _ _ rfl (P.alloc _) ⟨wr,0,none⟩ 1 1 [.int .u8 x] rfl rfl (Hx _ _ _) (by simp[Value.oneCell']) (by simp[maxLen];omega) (by omega) (by have:=M.size;simp;omega) ?_;intro aL a6 J G _ R)
          |fail)
         have Q:=(Mx wr (.cells #[.int .u8 x] 5) _).trans G;have aq:some p≠(Value.slice (some ⟨b2,aK,none⟩) o.length c2).ownBlock:=λe=>by have:=a8 p e.symm;omega
         have b1:a6.cell? ⟨p,1,none⟩=some (.int .i64 D):=(Q3 (Q.block p av aq)).trans ad;have b6:p<a6.heap.size:=B3 av Q.size;have aM:=A0 (show∀g,aL.ownBlock=some g->g<p\/p<g from λg u=>by
          rcases R with h|h
          ·exact a8 g (by rw[<-h];exact u)
          ·rw[h] at u;simp at u;omega)
         obtain⟨U,V⟩:=Hx2 (M.grown Q M.size (λb a2=>Ah P b a2)) J;clear J G R Q aq ad;go_wp2_with fail;exact⟨⟨j+1,by go_num,by omega,o++[x],aP,by rw[A9,N8,aV.out];omega,by
          intro y hy;rcases GA.1 hy with h|h
          ·exact Y y h
          ·rw[B6.1 h];exact b9,by rw[A9,D1];exact V,aM,b6,b1,U⟩,by simp[intOf];omega⟩
   ·have ak:AJ (c,n,q)=false:=by simpa using hm
    have hr:Bk most l []=none:=by rw[<-A.out,A3];rintro⟨h,_⟩;exact hm h
    have i:=A0 hr;rw[ak];clear hr hm ak;go_wp2_with fail;refine A5 (C3 rfl _ _ _) rfl ?_;rw[i.out];exact⟨rfl,f⟩
abbrev Fh(s:ByteArray):List An:=CV s.data.toList s.size 0
theorem UL(s:ByteArray)(h:s.size<=256):Es (Fh s)=true:=by
 have h1:=PR s.data.toList s.size 0;have h2:s.data.toList.length=s.size:=rfl;simp only[Es,Hz,E0,HH];exact⟨by show(CV s.data.toList s.size 0).length<=1000;omega,Nq _ _ _⟩
theorem UM(s:ByteArray)(most:Int)(h:(s.size:Int)<=most):Bk most (Fh s) []=some (Bq s):=by
 have h2:=PS s.data.toList most h s.size 0 (by show s.size<=0+s.size;omega) (A7 _);rw[P7] at h2;exact h2
def EV(s:ByteArray)(t:ByteArray)(p ok:Bool):Prop:=
 (s.size≠256->t=ByteArray.mk #[]/\p=false/\ok=false)/\
 (s.size=256->ok=true/\∃L,Ea (CW (Fh s)) L/\(((DN (Ff L (Fh s))).length<256/\t=strOfNums (DN (Ff L (Fh s)))/\p=true)\/(256<=(DN (Ff L (Fh s))).length/\t=s/\p=false)))
theorem UN{s t u:ByteArray}{p q ok a:Bool}(h:EV s t p ok)(k:EV s u q a):t=u/\p=q/\ok=a:=by
 by_cases h0:s.size=256
 ·obtain⟨rfl,L,b,h⟩:=h.2 h0;obtain⟨rfl,e,c,k⟩:=k.2 h0;obtain rfl:=bh b c;rcases h with⟨h1,rfl,rfl⟩|⟨h1,rfl,rfl⟩<;>rcases k with⟨d,rfl,rfl⟩|⟨d,rfl,rfl⟩
  ·exact⟨rfl,rfl,rfl⟩
  ·omega
  ·omega
  ·exact⟨rfl,rfl,rfl⟩
 ·obtain⟨rfl,rfl,rfl⟩:=h.1 h0;obtain⟨rfl,rfl,rfl⟩:=k.1 h0;exact⟨rfl,rfl,rfl⟩
def Ec(s:ByteArray)(a:Bool):Option (List Int):=
 if a=false then(if s.size=256 then some (Bq s) else none)
 else match CB (BX (Bq s)) 256 with
  |some (l,q)=>if 8<=((BX (Bq s)).length:Int) -q\/((BX (Bq s)).drop q.toNat).any id=true then none else Bk 256 l []
  |none=>none
theorem UO{s:ByteArray}(h:s.size=256):Ec s false=some (Bq s):=by unfold Ec;rw[A4 rfl,A4 h]
theorem eu{s:ByteArray}(h:s.size≠256):Ec s false=none:=by unfold Ec;rw[A4 rfl,A3 h]
theorem ev{s:ByteArray}(h:CB (BX (Bq s)) 256=none):Ec s true=none:=by unfold Ec;rw[A3 (by decide),h]
theorem ew{s:ByteArray}{l:List An}{q:Int}(h:CB (BX (Bq s)) 256=some (l,q))(hc:8<=((BX (Bq s)).length:Int) -q\/((BX (Bq s)).drop q.toNat).any id=true):Ec s true=none:=by
 unfold Ec;rw[A3 (by decide),h];simp only[];rw[A4 hc]
theorem UP{s:ByteArray}{l:List An}{q:Int}(h:CB (BX (Bq s)) 256=some (l,q))(hc:¬(8<=((BX (Bq s)).length:Int) -q\/((BX (Bq s)).drop q.toNat).any id=true)):Ec s true=Bk 256 l []:=by
 unfold Ec;rw[A3 (by decide),h];simp only[];rw[A3 hc]
theorem ex(n:Nat):8*CC n<n+8/\n<=8*CC n:=by unfold CC;omega
theorem ez(l:List Bool):∀c∈DN l,0<=c/\c<256:=by
 intro c hc;unfold DN EO at hc;obtain⟨j,_,rfl⟩:=E1.1 hc;exact dC l j
theorem NX{s t:ByteArray}{p ok:Bool}(h:EV s t p ok)(h0:s.size=256):ok=true/\Ec t p=some (Bq s)/\t.size<=256/\1<=t.size/\(p=true↔t.size<256):=by
 obtain⟨rfl,L,b,h⟩:=h.2 h0;have d:=UM s 1000 (by omega);have e:=UM s 256 (by omega);have c:=KP s;rcases h with⟨h1,rfl,rfl⟩|⟨h1,rfl,rfl⟩
 ·have a:BX (Bq (strOfNums (DN (Ff L (Fh s)))))=Ff L (Fh s)++List.replicate (8*CC (Ff L (Fh s)).length-(Ff L (Fh s)).length) false:=by
   rw[dQ (ez _),dL]
  have hr:=dy b (UL s (by omega)) d (List.replicate (8*CC (Ff L (Fh s)).length-(Ff L (Fh s)).length) false);rw[<-a,c,h0] at hr;have g:=ex (Ff L (Fh s)).length;have f:=(Up hr).2.1;refine⟨rfl,?_,by rw[GI];omega,?_,by rw[GI];simp[h1]⟩
  ·rw[UP hr ?_,e];rw[a,BY,List.drop_left];simp;omega
  ·rw[GI,NR];omega
 ·exact⟨rfl,UO h0,by omega,by omega,by simp[h0]⟩
def KR(n:Int):Int:=if n<=0 then 0 else(n-1)/32+1
def FI(c:Nat):Nat:=if c%2=1 then(c/2) ^^^ 3988292384 else c/2
def EP:Nat->Nat->Nat
 |0,c=>c
 |n+1,c=>FI (EP n c)
theorem eB{c:Nat}(h:c<4294967296):FI c<4294967296:=by
 unfold FI;split
 ·exact Nat.xor_lt_two_pow (n:=32) (by omega) (by decide)
 ·omega
theorem NY{c:Nat}(h:c<4294967296):∀n,EP n c<4294967296
 |0=>h
 |n+1=>eB (NY h n)
theorem eC(c:Nat)(h:c<4294967296):bits .and .u32 (c:Int) 1=((c%2:Nat):Int):=by
 rw[show(1:Int)=((1:Nat):Int) from rfl,Go.u32_and_nat c 1 h (by omega),Nat.and_one_is_mod]
theorem eD(c b:Nat)(w:World)(hc:c<4294967296)(hb:b<256):
 Calls prog 274 #[.int .u32 c, .int .u8 b] w λe w'=>e= .returned (.int .u32 (EP 8 (c ^^^ b):Nat))/\w=w':=by
 have m:=T0 c b hc (by omega);have hl:c ^^^ b<4294967296:=Nat.xor_lt_two_pow (n:=32) (by omega) (by omega);generalize c ^^^ b=d at*;go_enter func274,ntmps274;go_wp2
 go_loop [0,10] (λx i=>∃k:Nat,k<=8/\i= .int .i64 k/\x= .int .u32 (EP k d:Nat)) (λ_ i=>8-(intOf i).toNat)
 case atStart=>exact⟨0,by omega,rfl,rfl⟩
 case round=>
  obtain⟨k,hk,rfl,rfl⟩:=hrel;by_cases l:k<8
  ·have f:Hid (EP (k+1) d=FI (EP k d)):=rfl;have h1:=NY hl k;generalize EP k d=y at*;have ha:=eC y h1;have j:(k:Int)<8:=by omega
   by_cases g:y%2=1
   ·have h:=T0 (y/2) 3988292384 (by omega) (by omega);have a:Hid (bits .xor .u32 ((y:Int)/2) 3988292384=(FI y:Nat)):=by
     unfold Hid FI;rw[A4 g,<-h];rfl
    clear h;go_wp2
    exact⟨⟨k+1,by omega,by go_num,by rw[f.out,a.out]⟩,by simp[intOf];omega⟩
   ·have a:Hid (((y:Int)/2)=(FI y:Nat)):=by
     unfold Hid FI;rw[A3 g];omega
    go_wp2
    exact⟨⟨k+1,by omega,by go_num,by rw[f.out,<-a.out]⟩,by simp[intOf];omega⟩
  ·obtain rfl:k=8:=by omega
   go_wp2
   go_ret;exact⟨rfl,rfl⟩
theorem eE(c b:Nat)(w:World)(hc:c<4294967296)(hb:b<256):
 Calls prog 229 #[.int .u32 c, .int .u8 b] w λe w'=>e= .returned (.int .u32 (EP 8 (c ^^^ b):Nat))/\w=w':=by
 have o:=T0 c b hc (by omega);have hl:c ^^^ b<4294967296:=Nat.xor_lt_two_pow (n:=32) (by omega) (by omega);generalize c ^^^ b=d at*;go_enter func229,ntmps229;go_wp2
 go_loop [0,5] (λx i=>∃k:Nat,k<=8/\i= .int .i64 k/\x= .int .u32 (EP k d:Nat)) (λ_ i=>8-(intOf i).toNat)
 case atStart=>exact⟨0,by omega,rfl,rfl⟩
 case round=>
  obtain⟨k,hk,rfl,rfl⟩:=hrel;by_cases m:k<8
  ·have f:Hid (EP (k+1) d=FI (EP k d)):=rfl;have h1:=NY hl k;generalize EP k d=y at*;have l:(k:Int)<8:=by omega
   by_cases g:y%2=1
   ·have h:=T0 (y/2) 3988292384 (by omega) (by omega);have a:Hid (bits .xor .u32 ((y:Int)/2) 3988292384=(FI y:Nat)):=by
     unfold Hid FI;rw[A4 g,<-h];rfl
    have j:((y:Int)%2==1)=true:=beq_iff_eq.2 (by omega);clear h;go_wp2
    exact⟨⟨k+1,by omega,by go_num,by rw[f.out,a.out]⟩,by simp[intOf];omega⟩
   ·have a:Hid (((y:Int)/2)=(FI y:Nat)):=by
     unfold Hid FI;rw[A3 g];omega
    have j:((y:Int)%2==1)=false:=beq_eq_false_iff_ne.2 (by omega);go_wp2
    exact⟨⟨k+1,by omega,by go_num,by rw[f.out,<-a.out]⟩,by simp[intOf];omega⟩
  ·obtain rfl:k=8:=by omega
   go_wp2
   go_ret;exact⟨rfl,rfl⟩
theorem eF(y:Nat)(h:y<4294967296):4294967295 ^^^ y=4294967295-y:=by
 have h1:(~~~(BitVec.ofNat 32 y)).toNat=4294967295-y:=by rw[BitVec.toNat_not,BitVec.toNat_ofNat,S4 h]
 have h2:(BitVec.allOnes 32 ^^^ BitVec.ofNat 32 y).toNat=4294967295 ^^^ y:=by
  rw[BitVec.toNat_xor,BitVec.toNat_allOnes,BitVec.toNat_ofNat,S4 h]
 rw[<-h1,<-h2,BitVec.allOnes_xor]
def Ed(c:Nat)(l:List UInt8):Nat:=l.foldl (λc b=>EP 8 (c ^^^ b.toNat)) c
theorem UQ{c:Nat}(h:c<4294967296)(l:List UInt8):Ed c l<4294967296:=by
 unfold Ed;induction l generalizing c with
 |nil=>exact h
 |cons b l a=>exact a (NY (Nat.xor_lt_two_pow (n:=32) (by omega) (by have:=b.toNat_lt;omega)) 8)
def Bg(s:ByteArray):Nat:=4294967295-Ed 4294967295 s.data.toList
theorem Qv(s:ByteArray):Bg s<4294967296:=by unfold Bg;omega
theorem UR(c:Nat)(l:List UInt8)(b:UInt8):Ed c (l++[b])=EP 8 (Ed c l ^^^ b.toNat):=by unfold Ed;rw[NV];rfl
theorem US(s:ByteArray)(k:Nat)(h:k<s.size):s.data.toList.take (k+1)=s.data.toList.take k++[s[k]]:=by
 rw[B1 (by simpa using h)];rfl
theorem UT(s:ByteArray)(w:World)(hs:s.size<=9223372036854775806):
 Calls prog 210 #[.string s] w λe w'=>e= .returned (.int .u32 (Bg s:Nat))/\w=w':=by
 go_enter func210,ntmps210;go_wp2
 go_loop [3,7] (λx i=>∃k:Nat,k<=s.size/\i= .int .i64 k/\x= .int .u32 (Ed 4294967295 (s.data.toList.take k):Nat)) (λ_ i=>s.size-(intOf i).toNat)
 case atStart=>exact⟨0,by omega,rfl,rfl⟩
 case round=>
  obtain⟨k,hk,rfl,rfl⟩:=hrel;have h1:=UQ (c:=4294967295) (by omega) (s.data.toList.take k);by_cases g:k<s.size
  ·have d:Hid (Ed 4294967295 (s.data.toList.take (k+1))=EP 8 (Ed 4294967295 (s.data.toList.take k) ^^^ s[k].toNat)):=by
    unfold Hid;rw[US s k g,UR]
   generalize Ed 4294967295 (s.data.toList.take k)=y at*;have hb:=s[k].toNat_lt;have f:=eD y s[k].toNat w h1 (by omega);have j:(k:Int)<(s.size:Int):=by omega
   go_wp2_with ((with_reducible refine f.mono ?_);rintro e w' ⟨rfl,rfl⟩)
   exact⟨⟨k+1,by omega,by go_num,by rw[d.out]⟩,by simp[intOf];omega⟩
  ·obtain rfl:k=s.size:=by omega
   have a:Hid (Bg s=4294967295-Ed 4294967295 (s.data.toList.take s.size)):=by
    unfold Hid Bg;rw[E2 (by simp)]
   generalize Ed 4294967295 (s.data.toList.take s.size)=y at*;have b:Hid (bits .xor .u32 IntKind.u32.max (y:Int)=(4294967295-y:Nat)):=by
    have h:=T0 4294967295 y (by omega) h1;rw[eF y h1] at h;exact h
   have l:IntKind.u32.signed=false:=rfl;go_wp2
   go_ret;exact⟨by rw[a.out,b.out];rfl,rfl⟩
theorem eG(s:ByteArray)(w:World)(hs:s.size<=9223372036854775806):
 Calls prog 154 #[.string s] w λe w'=>e= .returned (.int .u32 (Bg s:Nat))/\w=w':=by
 go_enter func154,ntmps154;go_wp2
 go_loop [3,4] (λx i=>∃k:Nat,k<=s.size/\i= .int .i64 k/\x= .int .u32 (Ed 4294967295 (s.data.toList.take k):Nat)) (λ_ i=>s.size-(intOf i).toNat)
 case atStart=>exact⟨0,by omega,rfl,rfl⟩
 case round=>
  obtain⟨k,hk,rfl,rfl⟩:=hrel;have h1:=UQ (c:=4294967295) (by omega) (s.data.toList.take k);by_cases f:k<s.size
  ·have b:Hid (Ed 4294967295 (s.data.toList.take (k+1))=EP 8 (Ed 4294967295 (s.data.toList.take k) ^^^ s[k].toNat)):=by
    unfold Hid;rw[US s k f,UR]
   generalize Ed 4294967295 (s.data.toList.take k)=y at*;have hb:=s[k].toNat_lt;have d:=eE y s[k].toNat w h1 (by omega);have g:(k:Int)<(s.size:Int):=by omega
   go_wp2_with ((with_reducible refine d.mono ?_);rintro e w' ⟨rfl,rfl⟩)
   exact⟨⟨k+1,by omega,by go_num,by rw[b.out]⟩,by simp[intOf];omega⟩
  ·obtain rfl:k=s.size:=by omega
   have a:Hid (((Bg s:Nat):Int)=4294967295-(Ed 4294967295 (s.data.toList.take s.size):Nat)):=by
    unfold Hid Bg;rw[E2 (by simp)] at*;omega
   generalize Ed 4294967295 (s.data.toList.take s.size)=y at*;have h0:(y:Int)<=4294967295:=by omega
   go_wp2
   go_ret;exact⟨by rw[a.out];rfl,rfl⟩
def G9(s:ByteArray):List Int:=[(Bg s:Int)%256,(Bg s:Int)/256%256,(Bg s:Int)/65536%256,(Bg s:Int)/16777216]
def FJ(s:ByteArray):ByteArray:=s++strOfNums (G9 s)
theorem eH(s:ByteArray)(w:World)(hs:s.size<=9223372036854775):
 Calls prog 118 #[.string s] w λe w'=>e= .returned (.string (FJ s))/\Below w w w':=by
 have c:=UT s w (by omega);have hl:=Qv s;have b:Hid (FJ s=s++strOfNums (G9 s)):=rfl;have a:Av (w.alloc (.cells #[.int .u8 ((Bg s:Int)%256), .int .u8 ((Bg s:Int)/256%256), .int .u8 ((Bg s:Int)/65536%256), .int .u8 ((Bg s:Int)/16777216)] 5)) (.slice (some ⟨w,0,none⟩) 4 4) 1 (λx=>[.int .u8 x]) (G9 s):=Pj (f:=λx=> .int .u8 x) w 5 (G9 s) 4 (A1 _);have d:=JR a;clear a;have g:s.size+(strOfNums (G9 s)).size<=9223372036854775807:=by rw[GI];simp[G9];omega
 go_enter func118,ntmps118;go_wp2_with ((with_reducible refine c.mono ?_);rintro e w' ⟨rfl,rfl⟩)
 go_ret;exact⟨by rw[b.out];rfl,(A2 _ _).alloc (A1 _) _⟩
def Dh:Nat->Nat->List Int
 |0,n=>[(n:Int)]
 |f+1,n=>if n<128 then[(n:Int)] else((n%128+128:Nat):Int)::Dh f (n/128)
theorem Qw{f n:Nat}(h:n<128):Dh f n=[(n:Int)]:=by
 cases f with
 |zero=>rfl
 |succ f=>rw[Dh,A4 h]
theorem UU{f n:Nat}(h:¬n<128):Dh (f+1) n=((n%128+128:Nat):Int)::Dh f (n/128):=by rw[Dh,A3 h]
theorem UV:∀(f n:Nat),(Dh f n).length<=f+1
 |0,_=>A1 _
 |f+1,n=>by
  rw[Dh];split
  ·simp
  ·have:=UV f (n/128);simp;omega
def Ee(n:Nat):ByteArray:=strOfNums (Dh 6 n)
theorem JS(n:Nat):(Ee n).size<=7:=by unfold Ee;rw[GI];exact UV 6 n
theorem NZ(x:Int)(w:World)(h0:0<=x)(h1:x<1099511627776):
 Calls prog 122 #[x] w λe w'=>e= .returned (.string (Ee x.toNat))/\Below w w w':=by
 obtain⟨n,rfl⟩:=G0 h0;rw[BY];obtain⟨i0,q,r,s,t⟩:=BW Md;have A:n<128 ^ 7:=by omega
 have b1:decide ((n:Int)<0)=false:=by simp
 have b2:decide ((1099511627776:Int)<=(n:Int))=false:=by simp;omega
 go_enter func122,ntmps122;go_wp2_with fail;go_loopw [0,3] (λl D wr=>∃(m f:Nat) (a:List Int),l= .int .i64 m/\m<128 ^(f+1)/\m<=n/\a.length+f=6/\Hid (a++Dh f m=Dh 6 n)/\Hid (wr.ownsRow w.heap.size 5 1 D a.length (a.map (Value.int .u8)))/\Below w w wr) (λl _ _=>(intOf l).toNat)
 case atStart=>exact⟨n,6,[],rfl,A,A1 _,rfl,rfl,C2 _ _ _ _,A2 _ _⟩
 case round=>
  obtain⟨m,f,a,rfl,hm,I,hf,o,c,hb⟩:=hrel;obtain⟨a1,c1,rfl,J,_⟩:=Aw c;have d:=A0 hb;have G:=hb.size;clear hb;by_cases p:m<128
  ·have y:decide ((128:Int)<=(m:Int))=false:=by simp;omega
   have z:decide (128<=m)=false:=by simp;omega
   have v:Hid (Ee n=strOfNums (a++[(m:Int)])):=by unfold Hid Ee;rw[<-o.out,Qw p]
   go_wp2_with (first
    |(at_builtin;refine F0 _ rfl _ _ 155 rfl w.heap.size 5 i0 (.int .u8 0) 1 1 underlying155 q r s t rfl (by decide) (.slice a1 a.length c1) _ _ rfl (c.alloc _) ⟨wr,0,none⟩ 1 1 [.int .u8 m] rfl rfl (Hx _ _ _) (by simp[Value.oneCell']) (by simp[maxLen];omega) (by omega) (by simp;omega) ?_;intro E F k j _ B
      have H:=JR (xs:=a++[(m:Int)]) (Cr (f:=Value.int .u8) (by simpa using k)).1)
    |fail)
   have h:=(d.alloc d.size _).grown j (by simp;omega) (λb i=>Ah c b i);go_ret;exact⟨by rw[v.out];rfl,h⟩
  ·have y:decide ((128:Int)<=(m:Int))=true:=by simp;omega
   have z:decide (128<=m)=true:=by simp;omega
   obtain⟨f,rfl⟩:∃g,f=g+1:=by
    cases f with
    |zero=>exact absurd hm (by omega)
    |succ g=>exact⟨g,rfl⟩
   have u:Hid ((a++[((m%128+128:Nat):Int)])++Dh f (m/128)=Dh 6 n):=by
    unfold Hid;rw[<-o.out,UU p,C1];rfl
   have C:m/128<128 ^(f+1):=by rw[P9] at hm;omega
   clear hm;go_wp2_with (first
    |(at_builtin;refine F0 _ rfl _ _ 155 rfl w.heap.size 5 i0 (.int .u8 0) 1 1 underlying155 q r s t rfl (by decide) (.slice a1 a.length c1) _ _ rfl (c.alloc _) ⟨wr,0,none⟩ 1 1 [.int .u8 ((m:Int)%128+128)] rfl rfl (Hx _ _ _) (by simp[Value.oneCell']) (by simp[maxLen];omega) (by omega) (by simp;omega) ?_;intro E F k j _ B)
    |fail)
   have h:=(d.alloc d.size _).grown j (by simp;omega) (λb i=>Ah c b i);exact⟨⟨m/128,f,a++[((m%128+128:Nat):Int)],by go_num,C,by omega,by simp;omega,u,by unfold Hid;simpa using k,h⟩,by simp[intOf];omega⟩
def Ew:Nat->List UInt8->Nat->Nat->Option (Nat×Nat)
 |0,_,_,_=>none
 |_+1,[],_,_=>none
 |f+1,b::l,i,n=>if 128<=b.toNat then Ew f l (i+1) (n+b.toNat%128*128 ^ i) else if 1099511627776<=n+b.toNat%128*128 ^ i\/(b.toNat=0/\0<i) then none else some (n+b.toNat%128*128 ^ i,i+1)
def CN(s:ByteArray)(at':Int):Option (Nat×Nat):=
 if 0<=at'/\at'<s.size then(Ew 6 (s.data.toList.drop at'.toNat) 0 0).map (λa=>(a.1,at'.toNat+a.2)) else none
def eI(s:ByteArray)(q:Nat)(b a:Value):Prop:=
 ∃(k n:Nat),b= .int .i64 n/\a= .int .i64 k/\k<=6/\q+k<=s.size/\n<128 ^ k/\Hid (Ew (6-k) (s.data.toList.drop (q+k)) k n=Ew 6 (s.data.toList.drop q) 0 0)
def Ha:Option (Nat×Nat)->Value
 |none=> .tuple #[.int .i64 0, .int .i64 0, .bool false]
 |some (n,p)=> .tuple #[n, p, .bool true]
theorem N0(s:ByteArray)(p:Int)(w:World)(hs:s.size<=9223372036854775):
 Calls prog 131 #[.string s, p] w λe w'=>e= .returned (Ha (CN s p))/\w=w':=by
 by_cases hp:0<=p/\p<s.size
 ·obtain⟨h0,h1⟩:=hp;obtain⟨q,rfl⟩:=G0 h0;have b1:decide ((q:Int)<0)=false:=by simp
  have b2:decide ((s.size:Int)<=(q:Int))=false:=by simp;omega
  have N:decide (s.size<=q)=false:=by simp;omega
  have b:Hid (CN s q=(Ew 6 (s.data.toList.drop q) 0 0).map (λd=>(d.1,q+d.2))):=by unfold Hid CN;rw[A4 ⟨by omega,by omega⟩,BY]
  go_enter func131,ntmps131;go_wp2
  go_loop [7,8] (λM o=>eI s q M o) (λ_ o=>6-(intOf o).toNat)
  case atStart=>exact⟨0,0,rfl,rfl,by omega,by omega,by decide,rfl⟩
  case round=>
   obtain⟨k,n,rfl,rfl,hk,U,h,c⟩:=hrel;by_cases Q:k<6
   ·have O:decide ((k:Int)<6)=true:=by simp;omega
    by_cases I:q+k<s.size
    ·have D:decide ((k:Int)<(s.size:Int) -(q:Int))=true:=by simp;omega
     have hb:=s[q+k].toNat_lt;have t:s.data.toList.drop (q+k)=s[q+k]::s.data.toList.drop (q+k+1):=by
      rw[T3 (by simpa using I)];rfl
     have v:128 ^(k+1)<=4398046511104:=Nat.pow_le_pow_right (n:=128) (by omega) (by omega:k+1<=6);have J:s[q+k].toNat%128*128 ^ k<=127*128 ^ k:=Nat.mul_le_mul_right _ (by omega);rw[P9] at v;have x:((s[q+k].toNat:Int)%128*2 ^(7*k))=((s[q+k].toNat%128*128 ^ k:Nat):Int):=by
      rw[Int.natCast_mul,Int.natCast_pow,Int.natCast_emod,Int.pow_mul];rfl
     have i:Hid (Ew (6-k) (s.data.toList.drop (q+k)) k n=if 128<=s[q+k].toNat then Ew (6-(k+1)) (s.data.toList.drop (q+(k+1))) (k+1) (n+s[q+k].toNat%128*128 ^ k) else if 1099511627776<=n+s[q+k].toNat%128*128 ^ k\/(s[q+k].toNat=0/\0<k) then none else some (n+s[q+k].toNat%128*128 ^ k,k+1)):=by
      unfold Hid;rw[t,show 6-k=(6-(k+1))+1 by omega,Ew];rfl
     have C:Hid (n+s[q+k].toNat%128*128 ^ k<128 ^(k+1)):=by unfold Hid;rw[P9];omega
     have z:wrap64 ((s[q+k].toNat:Int)%128*2 ^(7*k))=((s[q+k].toNat%128*128 ^ k:Nat):Int):=by rw[x];exact Q9 _ (by omega)
     have A:wrap64 ((n:Int)+((s[q+k].toNat%128*128 ^ k:Nat):Int))=(n:Int)+((s[q+k].toNat%128*128 ^ k:Nat):Int):=Q9 _ (by omega);have T:n<4398046511104:=by omega
     have R:s[q+k].toNat%128*128 ^ k<4398046511104:=by omega
     clear t x v J;by_cases u:128<=s[q+k].toNat
     ·have E:decide ((128:Int)<=(s[q+k].toNat:Int))=true:=by simp;omega
      have F:decide (128<=s[q+k].toNat)=true:=by simp;omega
      have B:Hid (Ew (6-(k+1)) (s.data.toList.drop (q+(k+1))) (k+1) (n+s[q+k].toNat%128*128 ^ k)=Ew 6 (s.data.toList.drop q) 0 0):=by
       unfold Hid;rw[<-c.out,i.out,A4 u]
      generalize s[q+k].toNat%128*128 ^ k=m at*;go_wp2
      go_round
      case rel=>exact⟨k+1,n+m,by go_num,by go_num,by omega,by omega,C,B⟩
      case measure=>simp[intOf];omega
     ·have E:decide ((128:Int)<=(s[q+k].toNat:Int))=false:=by simp;omega
      have F:decide (128<=s[q+k].toNat)=false:=by simp;omega
      have f:Hid (CN s q=(if 1099511627776<=n+s[q+k].toNat%128*128 ^ k\/(s[q+k].toNat=0/\0<k) then none else some (n+s[q+k].toNat%128*128 ^ k,k+1)).map (λd=>(d.1,q+d.2))):=by
       unfold Hid;rw[b.out,<-c.out,i.out,A3 u]
      clear i c b;by_cases y:s[q+k].toNat=0
      ·have V:wrap64 0=0:=Q9 _ (by omega);have l:s[q+k].toNat%128*128 ^ k=0:=by rw[y];simp
       by_cases j:0<k
       ·have G:decide (0<k)=true:=by simpa using j
        have a:Hid (CN s q=none):=by unfold Hid;rw[f.out,A4 (Or.inr ⟨y,j⟩)];rfl
        clear z A l h;by_cases r:1099511627776<=n
        ·have g:decide ((1099511627776:Int)<=(n:Int))=true:=Hc (by omega);go_wp2
         go_ret3
         exact⟨by rw[a.out];rfl,rfl⟩
        ·have g:decide ((1099511627776:Int)<=(n:Int))=false:=A6 (by omega);go_wp2
         go_ret3
         exact⟨by rw[a.out];rfl,rfl⟩
       ·have G:decide (0<k)=false:=by simpa using j
        have K:n=0:=by
         have H:k=0:=by omega
         rw[H] at h;have S:n<1:=h;omega
        have a:Hid (CN s q=some (n,q+(k+1))):=by
         have L:¬(1099511627776<=n\/(s[q+k].toNat=0/\0<k)):=by omega
         unfold Hid;rw[f.out,l,Hb,A3 L,Q1]
        have g:decide ((1099511627776:Int)<=(n:Int))=false:=A6 (by omega);clear z A l h K;go_wp2
        go_ret3
        exact⟨by rw[a.out];simp[Ha];omega,rfl⟩
      ·have P:((s[q+k].toNat:Int)==0)=false:=by simp;omega
       by_cases r:1099511627776<=n+s[q+k].toNat%128*128 ^ k
       ·have a:Hid (CN s q=none):=by unfold Hid;rw[f.out,A4 (Or.inl r)];rfl
        generalize s[q+k].toNat%128*128 ^ k=m at*;have g:decide ((1099511627776:Int)<=(n:Int)+(m:Int))=true:=by simp;omega
        go_wp2
        go_ret3
        exact⟨by rw[a.out];rfl,rfl⟩
       ·have a:Hid (CN s q=some (n+s[q+k].toNat%128*128 ^ k,q+(k+1))):=by unfold Hid;rw[f.out,A3 (by omega)];rfl
        generalize s[q+k].toNat%128*128 ^ k=m at*;have g:decide ((1099511627776:Int)<=(n:Int)+(m:Int))=false:=by simp;omega
        go_wp2
        go_ret3
        exact⟨by rw[a.out];simp[Ha];omega,rfl⟩
    ·have D:decide ((k:Int)<(s.size:Int) -(q:Int))=false:=by simp;omega
     have a:Hid (CN s q=none):=by
      unfold Hid;rw[b.out,<-c.out,List.drop_eq_nil_of_le (by simp;omega),show 6-k=(6-(k+1))+1 by omega,Ew];rfl
     go_wp2
     go_ret3
     exact⟨by rw[a.out];rfl,rfl⟩
   ·obtain rfl:k=6:=by omega
    have a:Hid (CN s q=none):=by
     unfold Hid;rw[b.out,<-c.out];rfl
    go_wp2
    go_ret3
    exact⟨by rw[a.out];rfl,rfl⟩
 ·have b:Hid (CN s p=none):=by unfold Hid CN;rw[A3 hp]
  by_cases h0:p<0
  ·have b1:decide (p<0)=true:=by simpa using h0
   clear hp;go_enter func131,ntmps131;go_wp2
   go_ret3
   exact⟨by rw[b.out];rfl,rfl⟩
  ·have b1:decide (p<0)=false:=by simpa using h0
   have b2:decide ((s.size:Int)<=p)=true:=by simp;omega
   clear hp;go_enter func131,ntmps131;go_wp2
   go_ret3
   exact⟨by rw[b.out];rfl,rfl⟩
section
open Go.Shelf Go.RowKit
abbrev Fi(B b:Nat)(bs:List Value)(w:World):Prop:=Lib.IsBuilder 195 5 B b bs w
theorem eJ:∃j,prog.info? 195=some j/\j.size=2:=by
 have h:(prog.info? 195).map (·.size)=some 2:=by kernel_rfl
 exact Option.map_eq_some_iff.1 h
theorem eK(B b:Nat)(bs:List Value)(w:World)(h:Fi B b bs w):
 Calls prog 211 #[.pointer (some ⟨b,0,none⟩)] w λe w'=>e= .returned (.tuple #[])/\(Lib.BuilderAt 195 5 B b (.pointer (some ⟨b,0,none⟩)) bs w'/\Below B w w'):=by
 obtain⟨j,a,d⟩:=eJ;rcases h with h|h
 ·have h0:=h.cell0;have c:=h.shape;have f:=h.frozen0;go_enter func211,ntmps211;go_wp2
  rw[Lib.run_to_unsafe w ⟨b,0,none⟩ underlying193 underlying352 a (by rw[d];decide) c (Nat.zero_lt_succ 1)];simp only[Result.andThen];rw[Oper.upon_value];go_wp2
  rw[run_callFunc_extern func275 (by kernel_rfl) (by kernel_rfl) (by kernel_rfl) (e:=Extern.AbiNoEscape.same) (by kernel_rfl)];rw[Lib.run_noEscape];simp only[Result.andThen];rw[Oper.upon_value];go_wp2
  rw[Lib.run_from_unsafe w ⟨b,0,none⟩ underlying352 underlying193 a c (by kernel_rfl)];simp only[Result.andThen];rw[Oper.upon_value];go_wp2
  go_end0
  exact⟨rfl,h.used _,(A2 B w).setCell (p:=⟨b,0,none⟩) h.1 _⟩
 ·have h0:=h.cell0;go_enter func211,ntmps211;go_wp2
  rw[Lib.run_neq_ptr_same w _ underlying193 a];go_wp2
  go_end0
  exact⟨rfl,h,A2 B _⟩
theorem Me(B b:Nat)(bs:List Value)(s:ByteArray)(w:World)(h:Fi B b bs w)(I:bs.length+s.size<=140737488355328)(H:B<=w.heap.size):
 Calls prog 121 #[.pointer (some ⟨b,0,none⟩), .string s] w λe w'=>e= .returned (.tuple #[s.size, .nilIface])/\(Fi B b (bs++Lib.strCells s) w'/\Below B w w'):=by
 have y:(prog.info? 5).map (λi=>(i.zero,i.size,i.bytes))=some (some (.int .u8 0),1,1):=by kernel_rfl
 obtain⟨i0,x,C,D,E⟩:=BW y;go_enter func121,ntmps121;go_wp2_with (go_at_call 211;refine(eK B b bs _ h).mono ?_)
 rintro e d ⟨rfl,h1,l⟩;obtain⟨o,v,c,r,A⟩:=h1;have c0:d.cell? ⟨b,0,none⟩=some (.pointer (some ⟨b,0,none⟩)):=by rw[Hw c];rfl
 have c1:d.cell? ⟨b,1,none⟩=some v:=by rw[Hw c];rfl
 go_wp2_with (at_builtin;refine Lib.wpList_append_own_string _ rfl _ _ 155 9 rfl B 5 i0 underlying155 underlying9 x C D E _ _ _ rfl r s rfl ?c3 ?c4 ?c5 ?_)
 case c3=>unfold maxLen;omega
 case c4=>omega
 case c5=>have:=l.size;omega
 intro F f t q _;have z:b<d.heap.size:=by
  rcases BZ b d.heap.size with j|j
  ·exact j
  ·simp[B8 j] at c
 have a:f.heap[b]?=some (.cells #[.pointer (some ⟨b,0,none⟩),v] 195 (0,0)):=by
  rw[q.block b z (λe=>A e.symm)];exact c
 have G:f.cell? ⟨b,0,none⟩=some (.pointer (some ⟨b,0,none⟩)):=by rw[Hw a];rfl
 have d1:f.cell? ⟨b,1,none⟩=some v:=by rw[Hw a];rfl
 have f1:f.frozen? ⟨b,1,none⟩=false:=Lib.frozen_of_heap a 1;obtain⟨n,u,cap,rfl⟩:∃n u cap,F= .slice n u cap:=by
  rcases t.2 with⟨m,_⟩|⟨g,cap,cur,m,_⟩
  ·exact⟨_,_,_,m⟩
  ·exact⟨_,_,_,m⟩
 go_wp2
 go_ret2;refine⟨rfl,Or.inr ?_,?_⟩
 ·exact Lib.BuilderAt.put (T:=195) (e:=5) o a (bs':=bs++Lib.strCells s) (by simpa[Lib.strCells_length] using t) (by decide)
 ·exact(l.grown q (by have:=l.size;omega) (λk hk=>(r.lt k hk).1)).setCell (p:=⟨b,1,none⟩) o _
end
def Bh(n:Nat):List UInt8:=(Ee n).data.toList
theorem Jg(n:Nat):(Bh n).length<=7:=by have:=JS n;unfold Bh;simpa using this
theorem Hd{d:Type}{f:d->Value}{w:World}{a:Option Addr}{n c:Nat}{xs:List d}(h:Av w (.slice a n c) 1 (λx=>[f x]) xs){k:Nat}(hk:k<xs.length):
 ∃b off,a=some ⟨b,off,none⟩/\b<w.heap.size/\w.cell? ⟨b,off+k,none⟩=some (f xs[k]):=by
 obtain⟨i,cap,g,hl,j,hc⟩:=h;injection g with h1 h2 h3;subst h1;rcases hc with rfl|⟨b,off,rfl,hb,e⟩
 ·simp at hk
 ·exact⟨b,off,rfl,hb,by simpa using e k hk 0 (by omega)⟩
theorem Jh{B b:Nat}{bs:List Value}{w w':World}(h:Fi B b bs w)(hb:Below w w w'):Fi B b bs w':=by
 have lt:∀{p v:Value},w.heap[b]?=some (.cells #[p,v] 195 (0,0))->w'.heap[b]?=some (.cells #[p,v] 195 (0,0)):=λ{p v} a=>by
  have g:b<w.heap.size:=by
   rcases BZ b w.heap.size with c|c
   ·exact c
   ·simp[B8 c] at a
  rw[hb.block b g];exact a
 rcases h with⟨d,v,a,f,e⟩|⟨d,v,a,f,e⟩
 ·exact Or.inl ⟨d,v,lt a,Ag f hb,e⟩
 ·exact Or.inr ⟨d,v,lt a,Ag f hb,e⟩
def Ex(s:ByteArray):ByteArray:=Ee s.size++s
theorem eL(s:ByteArray)(w:World)(hs:s.size<1099511627776):
 Calls prog 119 #[.string s] w λe w'=>e= .returned (.string (Ex s))/\Below w w w':=by
 have a:=NZ s.size w (by omega) (by omega);rw[BY] at a;have d:=JS s.size;have f:(Ee s.size).size+s.size<=9223372036854775807:=by omega
 have b:Hid (Ex s=Ee s.size++s):=rfl;go_enter func119,ntmps119;go_wp2_with fail;refine a.mono ?_;rintro e g ⟨rfl,c⟩;go_wp2_with fail;go_ret;exact⟨by rw[b.out];rfl,c⟩
def DO(l:List Int):List UInt8:=l.flatMap λx=>Bh x.toNat
theorem eM(l:List Int)(x:Int):DO (l++[x])=DO l++Bh x.toNat:=by unfold DO;simp[HB]
theorem Qx(l:List Int):(DO l).length<=7*l.length:=by
 unfold DO;induction l with
 |nil=>simp
 |cons x l a=>simp only[G8,A9,BV];have:=Jg x.toNat;omega
def Cl(l:List Int):List UInt8:=Bh l.length++DO l
theorem eN(n:Nat):(Ee n).data.toList.isEmpty=false:=by
 have h:0<(Ee n).size:=by
  unfold Ee;rw[GI];cases hc:Dh 6 n with
  |nil=>rw[Dh] at hc;split at hc<;>cases hc
  |cons a b=>simp
 have h2:0<(Ee n).data.toList.length:=by simpa using h
 cases hd:(Ee n).data.toList with
 |nil=>rw[hd] at h2;cases h2
 |cons a b=>rfl
theorem Qy(a b:List UInt8):Lib.byteCells a++Lib.byteCells b=Lib.byteCells (a++b):=by unfold Lib.byteCells;rw[D1]
theorem UW(v:Value)(l:List Int)(w:World)(o:Av w v 1 (λx=>[.int .i64 x]) l)(hl:l.length<=1000000)(hr:∀x∈l,0<=x/\x<1099511627776):
 Calls prog 124 #[v] w λe w'=>e= .returned (.string ⟨(Cl l).toArray⟩)/\Below w w w':=by
 obtain⟨a0,c0,rfl,_⟩:=id o;obtain⟨J,H⟩:=Hx2 o hr;have d:=λS:World=>NZ l.length S (by omega) (by omega);simp only[BY] at d;have y:=Lib.fresh_isBuilder 195 5 w;have U:=Jg l.length;clear o hr;go_enter func124,ntmps124;go_wp2_with fail;refine(d _).mono ?_;rintro e E ⟨rfl,m⟩;have r:=A0 (Jh y m);have i:Hid (Below w w E):=((A2 _ _).alloc (A1 _) _).trans (m.mono (by simp));clear d m y;go_wp2_with fail;refine(Me w.heap.size w.heap.size [] (Ee l.length) E r (by simp;have:=JS l.length;omega) i.size).mono ?_;rintro e Q ⟨rfl,z,B⟩;have s:Hid (Fi w.heap.size w.heap.size (Lib.byteCells (Bh l.length++DO (l.take 0))) Q):=by unfold Hid;simp only[P7];rw[show DO []=[] from rfl,E5];exact z
 have u:=A0 (i.trans B);clear r i z B;go_wp2_with fail;go_loopw [13] (λq wr=>∃k:Nat,q= .int .i64 k/\k<=l.length/\Hid (Fi w.heap.size w.heap.size (Lib.byteCells (Bh l.length++DO (l.take k))) wr)/\Below w w wr) (λq _=>l.length-(intOf q).toNat)
 case atStart=>exact⟨0,rfl,A7 _,s,u⟩
 case round=>
  clear s u;obtain⟨k,rfl,hk,h,hb⟩:=hrel;have a:=A0 hb;by_cases n:k<l.length
  ·have N:=H l[k] (BA n);obtain⟨O,P⟩:=N;obtain⟨b,off,rfl,L,hc⟩:=Hd (f:=λx=> .int .i64 x) J n;have M:=(a.cell (p:=⟨b,off+k,none⟩) L).trans hc;have I:Hid (l.take (k+1)=l.take k++[l[k]]):=B1 n;have V:=Qx (l.take k);have W:(l.take k).length<=k:=ID _ _;generalize l[k]=x at*;have d:=NZ x wr O P;have X:(Ee x.toNat).toList.isEmpty=false:=by rw[Wm];exact eN x.toNat
   have Y:=JS x.toNat;have T:(k:Int)<(l.length:Int):=by omega
   clear hc hb;go_wp2_with fail;refine d.mono ?_;rintro e F ⟨rfl,c⟩;obtain⟨g,t⟩:=Hx2 (a.trans (c.mono a.size)) (Jh h c);clear d c M;go_wp2_with fail;refine(Me w.heap.size w.heap.size _ (Ee x.toNat) F t (by rw[Lib.byteCells_length,A9];omega) g.size).mono ?_;rintro e R ⟨rfl,A,C⟩;have G:Hid (Fi w.heap.size w.heap.size (Lib.byteCells (Bh l.length++DO (l.take (k+1)))) R):=by
    unfold Hid;rw[I.out,eM,<-C1,<-Qy];exact A
   have K:=A0 (g.trans C);clear t g A C h a;go_wp2_with fail;exact⟨⟨k+1,by go_num,by omega,G,K⟩,by simp[intOf];omega⟩
  ·obtain rfl:k=l.length:=by omega
   have j:=h.out;rw[D4] at j;have D:=Tryz.Builder_String_any w.heap.size w.heap.size (Cl l) wr j a.size;clear j hb;go_wp2_with fail;refine D.mono ?_;rintro e F ⟨rfl,c⟩;have g:=A0 (a.trans c);clear c D;go_wp2_with fail;go_ret;exact⟨rfl,g⟩
end Go.Proofs.YtmajkjjjfodhlaaGreatDoor
