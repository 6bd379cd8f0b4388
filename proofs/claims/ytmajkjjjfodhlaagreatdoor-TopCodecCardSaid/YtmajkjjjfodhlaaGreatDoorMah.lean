/- Part Mah. No condition of its own. -/
import Derived.Shelf.Bytes.SlSmallAll
import Derived.Maps.GroupsBeside
import Derived.Test.YtmajkjjjfodhlaaGreatDoorMag
namespace Go.Proofs.YtmajkjjjfodhlaaGreatDoor
open Go.RowKit Tryz
set_option linter.all false
set_option maxRecDepth 100000
set_option maxHeartbeats 8000000
theorem N8:type_of%@List.length_singleton:=@List.length_singleton
theorem R0:type_of%@List.map_map:=@List.map_map
theorem dM:(prog.info? 5).map (λi=>(i.zero,i.size,i.bytes))=some (some (.int .u8 0),1,1):=by kernel_rfl
theorem dN(n:Nat):(madeCells #[Value.int .u8 0] (CC n)).toList=(EO n []).map (.int .u8):=by
 apply Hf
 ·simp[madeCells,EO]
 ·intro i h1 h2;simp[madeCells,EO,dB,S5]
theorem Je{w:World}{base e size n:Nat}{v:Value}{cs:List Value}(h:w.ownsRow base e size v n cs):w.drew.ownsRow base e size v n cs:=h
theorem dO(v:Value)(bs:List Bool)(w:World)(m:Av w v 1 (λx=>[.bool x]) bs)(hl:bs.length<=140737488355328):
 Calls prog 37 #[v] w λe w'=>e= .returned (.string (strOfNums (DN bs)))/\Below w w w':=by
 obtain⟨i0,j,u,y,I⟩:=BW dM;rcases Da m with⟨rfl,a0,c0,rfl,S⟩|⟨T,b0,z,c0,rfl,R,F,d⟩
 ·have G:=λJ:World=>run_convert_bytes_zero (P:=prog) J 155 5 underlying155 underlying5 (some ⟨w,0,none⟩) 0 9 underlying9;go_enter func37,ntmps37;go_wp2_with (refine HZ _ rfl _ _ 155 rfl w.heap.size 5 i0 (.int .u8 0) 1 underlying155 j u y .i64 .i64 _ _ 0 rfl rfl ?hL ?hC ?b2 ?b3 ?b4 ?_)
  case hL=>rfl
  case hC=>rfl
  case b2=>omega
  case b3=>simp[maxLen]
  case b4=>exact A1 _
  intro n _ c;have g:Below w w n:=(A2 _ _).grown c (A1 _) (λk h=>by cases h);clear c;go_wp2
  refine wp_loop_rounds 1 ?_;rw[rounds_succ];go_wp2
  go_ret;exact⟨rfl,g⟩
 ·have f:((bs.length:Int)+7)/8=(CC bs.length:Nat):=by unfold CC;omega
  have E:CC bs.length<=bs.length:=by unfold CC;omega
  go_enter func37,ntmps37;go_wp2_with (refine HZ _ rfl _ _ 155 rfl w.heap.size 5 i0 (.int .u8 0) 1 underlying155 j u y .i64 .i64 _ _ (CC bs.length) rfl rfl ?hL ?hC ?b2 ?b3 ?b4 ?_)
  case hL=>rw[<-f];omega
  case hC=>rw[<-f];omega
  case b2=>rw[I];omega
  case b3=>simp[maxLen];omega
  case b4=>exact A1 _
  intro n t c;have g:Below w w n:=(A2 _ _).grown c (A1 _) (λk h=>by cases h);rw[dN bs.length] at t;clear f E;go_wp2
  go_loopw [14] (λi wr=>∃k:Nat,k<=bs.length/\i= .int .i64 k/\wr.ownsRow w.heap.size 5 1 (.slice (some ⟨w,0,none⟩) (CC bs.length) (CC bs.length)) (CC bs.length) ((EO bs.length (bs.take k)).map (.int .u8))/\Below w w wr) (λi _=>bs.length-(intOf i).toNat)
  case atStart=>exact⟨0,A7 _,rfl,by simpa using t,g⟩
  case round=>
   obtain⟨k,hk,rfl,a,hb⟩:=hrel;by_cases s:k<bs.length
   ·have K:wr.cell? ⟨b0,z+k,none⟩=some (.bool bs[k]):=by rw[hb.cell (p:=⟨b0,z+k,none⟩) F];exact d k s
    have H:k/8<CC bs.length:=by unfold CC;omega
    have L:wr.cell? ⟨w,k/8,none⟩=some (.int .u8 (Dg (bs.take k) (k/8))):=by
     rw[a.cellAt (k/8) (by omega)];simp[EO,H]
    have M:=a.frozenAt (k/8);have N:(k:Int)<(bs.length:Int):=by omega
    have g1:(0:Int)<=(k:Int):=by omega
    have g2:(k:Int)/8<(CC bs.length:Int):=by omega
    have O:(0:Int)<=(k:Int)/8:=by omega
    have o:=A0 (B1 s);clear d m;generalize bs[k]=x at*;have A:Hid ((bs.take k).length=k):=by unfold Hid;rw[B5];omega
    have Q:b0≠w.heap.size:=by omega
    cases x
    ·have b:=A0 (dI bs.length (bs.take k));have C:=A0 a;clear a;go_wp2
     exact⟨⟨k+1,by omega,by go_num,by rw[o.out,<-b.out];exact C,hb⟩,by simp[intOf];omega⟩
    ·have b:=dH bs.length (bs.take k);rw[A.out] at b;have l:=a.stored (k/8) (.int .u8 (bits .or .u8 (Dg (bs.take k) (k/8)) (2 ^(7-k%8)%256)));rw[<-I3,b,<-o.out] at l;have D:=A0 l;have q:=hb.setCell (p:=⟨w,k/8,none⟩) (A1 _) (.int .u8 (bits .or .u8 (Dg (bs.take k) (k/8)) (2 ^(7-k%8)%256)));have B:=A0 q;clear l b a q;go_wp2
     go_region
     go_wp2
     exact⟨⟨k+1,by omega,by go_num,Je D.out.1,B.drew⟩,by simp[intOf];omega⟩
   ·obtain rfl:k=bs.length:=by omega
    rw[D4] at a;have r:(DN bs).length=CC bs.length:=NR bs;have G:=run_convert_bytes_arg (P:=prog) wr 155 5 underlying155 underlying5 w.heap.size 0 (CC bs.length) (CC bs.length) (DN bs) r (λi j=>by
     rw[B2,a.cellAt i (by omega)];show((DN bs).map (Value.int .u8))[i]?=_;rw[Hp,Bl (by omega),B9,Bl (by omega)];rfl) 9 underlying9
    clear a d m r;go_wp2
    go_ret;exact⟨rfl,hb⟩
def Bq(s:ByteArray):List Int:=s.data.toList.map λc=>(c.toNat:Int)
theorem KP(s:ByteArray):(Bq s).length=s.size:=by simp[Bq]
theorem dP(s:ByteArray)(k:Nat)(h:k<s.size):(Bq s)[k]'(by rw[KP];exact h)=(s[k].toNat:Int):=by simp[Bq];rfl
theorem Uu(s:ByteArray):strOfNums (Bq s)=s:=by
 unfold strOfNums Bq;rw[R0];have:((λn:Int=>UInt8.ofNat n.toNat)∘λc:UInt8=>(c.toNat:Int))=id:=by
  funext c;simp
 rw[this];simp
theorem dQ{xs:List Int}(h:∀c∈xs,0<=c/\c<256):Bq (strOfNums xs)=xs:=by
 unfold Bq;rw[strOfNums_data,R0]
 conv=>rhs;rw[<-List.map_id xs]
 refine HV λc hc=>?_;have:=h c hc;simp;omega
theorem GI(xs:List Int):(strOfNums xs).size=xs.length:=by
 show(strOfNums xs).data.size=_;rw[<-Hy,strOfNums_data,B4]
theorem dR{x:Int}(h0:0<=x)(h1:x<256):bits .and .u8 x 1=x%2:=
 bits_mask .u8 8 (by decide) (λn a b=>wraps_u8 n a b) 1 (by decide) x h0 h1
theorem dS(n:Int)(i:Nat)(h0:0<=n)(h1:n<256):(bits .and .u8 (n/2 ^ i) 1==1)=Fd n i:=by
 have hp:=D6 i;have e:(2:Int) ^ i=p2 i:=(JG i).symm;have h2:0<=n/p2 i:=Int.ediv_nonneg h0 (by omega);have h3:n/p2 i<=n:=Int.ediv_le_self _ h0;rw[e,dR h2 (by omega)];rfl
theorem dU(s:List Int)(c:Int):BX (s++[c])=BX s++Ar c 8:=by simp[BX]
theorem dV(s:ByteArray)(w:World)(hs:s.size<=17592186044416):
 Calls prog 304 #[.string s] w λe w'=>∃z,e= .returned z/\w'.ownsRow w.heap.size 4 1 z (BX (Bq s)).length ((BX (Bq s)).map .bool)/\Below w w w':=by
 obtain⟨i0,j,t,u,y⟩:=BW LG;go_enter func304,ntmps304;go_wp2_with (refine wpList_make_own _ rfl _ _ 25 rfl w.heap.size 4 i0 (.bool false) 1 underlying25 j t u .i64 .i64 _ (s.size*8) rfl rfl ?hC ?b2 ?b3 ?b4 ?_)
 case hC=>simp
 case b2=>rw[y];omega
 case b3=>simp[maxLen];omega
 case b4=>exact A1 _
 intro K q g;have E:Below w w K:=(A2 _ _).grown g (A1 _) (λk h=>by cases h);have Hown1:=A0 q;clear q g;go_wp2
 go_loopw [3,12] (λv i wr=>∃k:Nat,k<=s.size/\i= .int .i64 k/\wr.ownsRow w.heap.size 4 1 v (8*k) ((BX ((Bq s).take k)).map .bool)/\Below w w wr) (λ_ i _=>s.size-(intOf i).toNat)
 case atStart=>exact⟨0,A7 _,rfl,Hown1,E⟩
 case round=>
  obtain⟨k,hk,rfl,p,hb⟩:=hrel;have d:=A0 p;clear p;by_cases o:k<s.size
  ·have M:=s[k].toNat_lt;obtain⟨B,C⟩:=Hx2 (dP s k o) (B1 (i:=k) (l:=Bq s) (by rw[KP];exact o));go_wp2
   obtain⟨A,J⟩:∃A:World,A=wr:=⟨_,rfl⟩;subst J;go_loopw [3,5] (λv i wr=>∃m:Nat,m<=8/\i= .int .i64 (7-m)/\wr.ownsRow w.heap.size 4 1 v (8*k+m) ((BX ((Bq s).take k)++(Ar s[k].toNat 8).take m).map .bool)/\Below w w wr) (λ_ i _=>(intOf i+1).toNat)
   case atStart=>exact⟨0,A7 _,rfl,by simpa using d.out,hb⟩
   case round=>
    obtain⟨m,hm,rfl,c,a⟩:=hrel;by_cases n:m<8
    ·have G:=dS s[k].toNat (7-m) (by omega) (by omega);have f:(Ar (s[k].toNat:Int) 8)[m]'(by rw[Ci];exact n)=Fd s[k].toNat (7-m):=by simp[Ar]
     obtain⟨Hstep,D⟩:=Hx2 (B1 (i:=m) (l:=Ar (s[k].toNat:Int) 8) (by rw[Ci];exact n)) f;clear f;generalize Fd (s[k].toNat:Int) (7-m)=x at*;go_wp2_with (at_builtin;refine Ho _ rfl _ _ 25 rfl w.heap.size 4 i0 (.bool false) 1 1 underlying25 j t u y rfl (by decide) _ _ _ rfl (c.alloc _) ⟨wr,0,none⟩ 1 1 [.bool x] rfl rfl ?c1 ?c2 ?c3 ?c4 ?c5 ?_)
     case c1=>exact Hx _ _ _
     case c2=>simp[Value.oneCell']
     case c3=>simp[maxLen];omega
     case c4=>omega
     case c5=>have:=a.size;simp;omega
     intro N L r I _;have F:Below w w L:=((a.alloc a.size _).grown I (by have:=a.size;simp;omega) (λb H=>Ah c b H));have Hown3:=A0 r;clear r G;go_wp2
     exact⟨⟨m+1,by omega,by rw[show((7:Int) -↑(m+1))=7-m-1 by omega],by
      have h:=Hown3.out;rw[Hstep.out,D.out];simpa[Hl] using h,F⟩,by simp[intOf];omega⟩
    ·obtain rfl:m=8:=by omega
     have Hown2:=A0 c;clear c;go_wp2
     exact⟨⟨k+1,by omega,by go_num,by
      have h:=Hown2.out;rw[E2 (l:=Ar (s[k].toNat:Int) 8) (by rw[Ci];exact A1 _)] at h;rw[C.out,dU,B.out];exact h,a⟩,by simp[intOf];omega⟩
  ·obtain rfl:k=s.size:=by omega
   go_wp2
   go_ret;exact⟨_,rfl,by
    have h:=d.out;rw[E2 (by rw[KP];exact A1 _)] at h;rw[Qq,KP];exact h,hb⟩
theorem Mc(s:ByteArray)(i:Nat)(h:i<s.size):bt s.data.toList i=s[i]:=by
 unfold bt;have a:i<s.data.toList.length:=by simpa using h
 simp[List.getD,Bl a];rfl
theorem dW(s:ByteArray)(at' d:Nat)(w:World)(hd:d<=at')(ha:at'<=17592186044416)(hs:s.size<=17592186044416):
 Calls prog 169 #[.string s, at', d] w λe w'=>e= .returned (.int .i64 (Du s.data.toList at' d))/\∃m,w'=w.drewN m:=by
 have hl:s.data.toList.length=s.size:=by simp
 go_enter func169,ntmps169;go_wp2_with fail;go_loopw [7] (λi wr=>∃n:Nat,n<=18/\i= .int .i64 n/\(∀i,i<n->at'+i<s.data.toList.length/\bt s.data.toList (at'+i)=bt s.data.toList (at'+i-d))/\∃m,wr=w.drewN m) (λi _=>18-(intOf i).toNat)
 case atStart=>exact⟨0,by omega,rfl,λi h=>by omega,0,rfl⟩
 case round=>
  obtain⟨n,k,rfl,g,m,rfl⟩:=hrel;have c:=A0 g;clear g;by_cases o:n=18
  ·subst o;have hc:=PN (L:=s.data.toList) (at':=at') (d:=d) (by omega) c (Or.inl rfl);have b:=A0 hc;clear hc;have b1:decide ((18:Int)<18)=false:=by decide
   go_wp2_with fail;go_quiet (fail)
   go_wp2_with fail;go_ret;exact⟨by rw[b.out];rfl,_,J2 _ _ _⟩
  ·have r:IntKind.i64.wrap ((at':Int)+(n:Int))=(at':Int)+(n:Int):=C0 _ (by omega);have t1:((at':Int)+(n:Int)).toNat=at'+n:=by omega
   have c1:(0:Int)<=(at':Int)+(n:Int):=by omega
   have b1:decide ((n:Int)<18)=true:=by simp;omega
   by_cases f:at'+n<s.size
   ·have t:IntKind.i64.wrap ((at':Int)+(n:Int) -(d:Int))=(at':Int)+(n:Int) -(d:Int):=C0 _ (by omega);have t2:((at':Int)+(n:Int) -(d:Int)).toNat=at'+n-d:=by omega
    have c2:(at':Int)+(n:Int)<(s.size:Int):=by omega
    have c3:(0:Int)<=(at':Int)+(n:Int) -(d:Int):=by omega
    have c5:(d:Int)<=(at':Int)+(n:Int):=by omega
    have c4:(at':Int)+(n:Int) -(d:Int)<(s.size:Int):=by omega
    have j:at'+n-d<s.size:=by omega
    have b2:decide ((at':Int)+(n:Int)<(s.size:Int))=true:=by simp;omega
    by_cases a:s[at'+n]=s[at'+n-d]
    ·have p:((s[at'+n].toNat:Int)==(s[at'+n-d].toNat:Int))=true:=by rw[a];simp
     have l:=A0 a;clear a;go_wp2_with fail;go_quiet (fail)
     go_wp2_with fail;exact⟨⟨n+1,by omega,by go_num,λi q=>by
      by_cases e:i=n
      ·subst e;rw[Mc s _ f,Mc s _ j];exact⟨by omega,l⟩
      ·exact c i (by omega),_,rfl⟩,by simp[intOf];omega⟩
    ·have p:((s[at'+n].toNat:Int)==(s[at'+n-d].toNat:Int))=false:=by
      simp only[beq_eq_false_iff_ne,ne_eq];intro h;exact a (UInt8.toNat_inj.1 (by omega))
     have hc:=PN (L:=s.data.toList) (at':=at') (d:=d) k c (Or.inr (by rw[Mc s _ f,Mc s _ j];exact λh=>a h.2));clear a;have b:=A0 hc;clear hc;go_wp2_with fail;go_quiet (fail)
     go_wp2_with fail;go_ret;exact⟨by rw[b.out];rfl,_,J2 _ _ _⟩
   ·have hc:=PN (L:=s.data.toList) (at':=at') (d:=d) k c (Or.inr (by rw[hl];exact λh=>f h.1));have b:=A0 hc;clear hc;have b2:decide ((at':Int)+(n:Int)<(s.size:Int))=false:=by simp;omega
    go_wp2_with fail;go_quiet (fail)
    go_wp2_with fail;go_ret;exact⟨by rw[b.out];rfl,_,J2 _ _ _⟩
section
open Go.RowKit Go.Maps Go.WideMaps
open Go.ChangeShapes (lits)
theorem Qr:Keyed prog 9:=string_keyed underlying9
def G5(H:Type)(w:World)(B b n:Nat)(L:List UInt8)(lo c:Nat):Prop:=
 ∃D:DataW H,w.ownsGroups prog 9 (B+1) 3 .i64 b n D/\IsMap D/\
  ∀key:List UInt8,key.length=3->(D.atKey (.string key) .nil= .nil/\D8 L key lo c=[])\/D.atKey (.string key) .nil= .slice (lits .i64 ((D8 L key lo c).map Int.ofNat)) []
theorem dX{H:Type}{xs ys:List Int}(h:lits (H:=H) .i64 xs=lits .i64 ys):xs=ys:=by
 unfold lits at h;exact(List.map_inj_right (f:=λc=>DataW.lit (H:=H) (.int .i64 c)) (λa b e=>by simpa using e)).1 h
theorem Uv{H:Type}{w:World}{base:Nat}{e:TypeId}{D:DataW H}{v:Value}{b:List Int}{a:List Nat}{key:Lit}(d:D.atKey key .nil=rowDatum .i64 v b)(f:w.ownsInts base e .i64 v b)
 (h:(D.atKey key .nil= .nil/\a=[])\/D.atKey key .nil= .slice (lits .i64 (a.map Int.ofNat)) []):b=a.map Int.ofNat:=by
 rw[d] at h;rcases f.datum (H:=H) with⟨c,rfl⟩|c<;>rw[c] at h
 ·rcases h with⟨_,rfl⟩|h
  ·rfl
  ·cases h
 ·rcases h with⟨h,_⟩|h
  ·cases h
  ·injection h with h;exact dX h
end
section
open Go.RowKit Go.Maps Go.WideMaps
open Go.ChangeShapes (lits)
theorem dY:(prog.info? 3).map (λi=>(i.zero,i.size,i.bytes))=some (some (.int .i64 0),1,8):=by kernel_rfl
theorem Uw(w:World):(zeroValue 73).run prog w= .ok (.slice none 0 0) w:=by kernel_rfl
theorem Ux(s:ByteArray)(hs:s.size<=17592186044416):keyOf prog 9 (.string s)=some (.string s.data.toList):=keyOf_string_mk underlying9 (by unfold maxLen;omega)
def KQ(a:Nat->Prop)(B:Nat)(w w':World):Prop:=Below B w w'/\∀g,a g->g≠B->g<w.heap.size->w'.heap[g]?=w.heap[g]?
theorem Uy(a:Nat->Prop)(B:Nat)(w:World):KQ a B w w:=⟨A2 _ _,λ_ _ _ _=>rfl⟩
theorem Uz{b:Nat->Prop}{B:Nat}{a w w':World}{row:Option Nat}(h:KQ b B a w)(c:w.grownBy w' row)(d:B<=w.heap.size)(hr:∀k,row=some k->B<=k/\(b k->k=B)):KQ b B a w':=
 ⟨h.1.grown c d λk hk=>(hr k hk).1,λg h1 h2 h3=>(c.block g (B3 h3 h.1.size) (λe=>h2 ((hr g e.symm).2 h1))).trans (h.2 g h1 h2 h3)⟩
theorem dZ{a:Nat->Prop}{B base e size n:Nat}{v:Value}{cs:List Value}{w w':World}(hb:KQ a B w w')(h:w.ownsRow base e size v n cs)(b:∀g,v.ownBlock=some g->a g/\g≠B):w'.ownsRow base e size v n cs:=by
 obtain⟨hl,h⟩:=h;refine⟨hl,?_⟩;rcases h with h|⟨g,cap,cur,rfl,c,hc,f,hm,hs,i⟩
 ·exact Or.inl h
 ·have d:g<w.heap.size:=by
   rcases BZ g w.heap.size with h|h
   ·exact h
   ·rw[B8 h] at hc;cases hc
  obtain⟨h1,h2⟩:=b g (by simp[Value.ownBlock]);exact Or.inr ⟨g,cap,cur,rfl,c,by rw[hb.2 g h1 h2 d];exact hc,f,hm,hs,i⟩
theorem UA(s:ByteArray)(i:Nat):(s.extract i (i+3)).data.toList=CA s.data.toList i:=by
 obtain⟨⟨l⟩⟩:=s;rw[show ByteArray.mk ⟨l⟩=ByteArray.mk l.toArray from rfl,ByteArray.extract_mk];simp[CA]
theorem d7{H:Type}{D:DataW H}{L:List UInt8}{lo c:Nat}{d:DataW H}(hm:IsMap D)
 (a:∀key:List UInt8,key.length=3->(D.atKey (.string key) .nil= .nil/\D8 L key lo c=[])\/D.atKey (.string key) .nil= .slice (lits .i64 ((D8 L key lo c).map Int.ofNat)) [])
 (hd:d= .slice (lits .i64 ((D8 L (CA L (lo+c)) lo c).map Int.ofNat++[((lo+c:Nat):Int)])) []):
 ∀key:List UInt8,key.length=3->((D.put (.string (CA L (lo+c))) d).atKey (.string key) .nil= .nil/\D8 L key lo (c+1)=[])\/(D.put (.string (CA L (lo+c))) d).atKey (.string key) .nil= .slice (lits .i64 ((D8 L key lo (c+1)).map Int.ofNat)) []:=by
 intro key hk;rw[PP];by_cases e:CA L (lo+c)=key
 ·subst e;right;rw[atKey_put_same hm (by simp[WideAt.IsKeyLit]),hd,A4 rfl];simp
 ·rw[atKey_put_other (by simpa using λh=>e h.symm),A3 e,E5];exact a key hk
theorem d8{L:List UInt8}{key:List UInt8}{lo c:Nat}(h:L.length<lo+c+3)(hk:key.length=3):D8 L key lo (c+1)=D8 L key lo c:=by
 rw[PP,A3,E5];intro e;exact Z9 L (lo+c) h (by rw[e];exact hk)
theorem d9{H:Type}(a:Nat->Prop)(s:ByteArray)(B n lo c:Nat)(w:World)(C:G5 H w B B n s.data.toList lo c)(j:w.Shuns B a)(F:∀g,a g->g<w.heap.size)(hs:s.size<=1099511627776)(ha:lo+c<=s.size)(Y:n<=1099511627776):
 Calls prog 81 #[.map (some B), .string s, .int .i64 ((lo+c:Nat):Int)] w λe w'=>(∃v,e= .returned v)/\G5 H w' B B (n+1) s.data.toList lo (c+1)/\w'.Shuns B a/\KQ a B w w':=by
 obtain⟨i0,M,R,S,T⟩:=BW dY;have hl:s.data.toList.length=s.size:=by simp
 generalize J:lo+c=at' at*;go_enter func81,ntmps81;by_cases h3:s.size<at'+3
 ·go_wp2_with fail;first|go_end0|refine A5 (results_none rfl _ _ _) rfl ?_
  obtain⟨D,d,hm,i⟩:=C;refine⟨⟨_,rfl⟩,⟨D,?_,hm,λkey hk=>?_⟩,j,Uy _ _ _⟩
  ·obtain⟨t,r,h1,h2,h3,h4,h5,h6,h7⟩:=d;exact⟨t,r,h1,h2,by omega,h4,h5,λx f p Q=>by have:=h6 x f p Q;omega,h7⟩
  ·rw[d8 (by omega) hk];exact i key hk
 ·obtain⟨D,d,hm,i⟩:=C;have q:=A0 i;clear i;have o:=Ux (s.extract at' (at'+3)) (by simp;omega);have f:=UA s at';rw[f] at o;have W:=A0 f;clear f;have O:(CA s.data.toList at').length=3:=by simp[CA];omega
  have X:B<w.heap.size:=by
   obtain⟨t,r,h1,_⟩:=d;exact(HO.1 h1).1
  have E:(Lit.int .i64 (at':Int)).wf=true:=WalkArith.wf_i64 (by omega);go_wp2_with (first
   |(at_lookup;refine wpList_lookup_groups_shuns _ rfl _ _ 152 rfl 9 73 3 .i64 Qr underlying152 (Uw _) (B+1) B n _ rfl d (by unfold maxLen;omega) _ _ rfl o ?_;intro v p I b a0 K A)
   |(at_builtin;refine F0 _ rfl _ _ 73 rfl (B+1) 3 i0 (.int .i64 0) 1 8 underlying73 M R S T rfl (by decide) v _ _ rfl (b.1.alloc _) ⟨w,0,none⟩ 1 1 [at'] rfl rfl (Hx _ _ _) (ints_oneCell .i64 [(at':Int)]) (by unfold maxLen;omega) (by omega) (by simp;omega) ?_;intro V a1 z m Z y)
   |(at_mapUpdate;refine wpList_mapUpdate_back_shuns _ rfl _ _ _ 152 rfl Qr underlying152 o d (by unfold maxLen;omega) b j ?hno K rfl rfl rfl ((Mx _ _ _).trans m) (b.appended z E) (by simp;omega) (y.imp id (λh=>⟨_,h,by simp⟩)) ?_;rotate_left;intro a2 N L P)
   |fail)
  ·go_end0
   have U:=Uv I b (q _ O);refine⟨⟨_,rfl⟩,⟨_,N,hm.put _ _,?_⟩,P,?_⟩
   ·subst J;refine d7 hm q ?_;show rowDatum .i64 V (p++[((lo+c:Nat):Int)])=_;rw[(b.appended z E).datum_pos (by simp),U]
   ·refine Uz (Uz (Uy _ _ _) ((Mx _ _ _).trans m) (by omega) λk hk=>⟨?_,λG=>absurd G (A a j k hk)⟩) L (by have:=m.size;simp at this;omega) λk hk=>by cases hk;exact⟨A1 _,λ_=>rfl⟩
    have:=(b.1.lt k hk).1;omega
  ·intro g l u;rcases y with h|h
   ·exact A a j g (by rw[<-h];exact l) u
   ·rw[h] at l;have h1:=F g u;simp at l;omega
end
section
open Go.RowKit Go.Maps Go.WideMaps
open Go.ChangeShapes (lits)
theorem ed{a b c d:Int}(h1:a=c)(h2:b=d):Ending.returned (.tuple #[a, b])=Ending.returned (.tuple #[c, d]):=by rw[h1,h2]
theorem ee{H:Type}(s:ByteArray)(B n lo c:Nat)(w:World)(a5:G5 H w B B n s.data.toList lo c)(hs:s.size<=1099511627776)(ha:lo+c<=s.size)(M:lo<=lo+c-255)(al:n<=1099511627776):
 Calls prog 80 #[.map (some B), .string s, .int .i64 ((lo+c:Nat):Int)] w λe w'=>e= .returned (.tuple #[.int .i64 ((Cj s.data.toList (lo+c)).1:Int), .int .i64 ((Cj s.data.toList (lo+c)).2:Int)])/\∃m,w'=w.drewN m:=by
 have hl:s.data.toList.length=s.size:=by simp
 obtain⟨ad,W⟩:=Hx2 hl M;clear M;by_cases h3:s.size<lo+c+3
 ·have a3:=Z7 (L:=s.data.toList) (at':=lo+c) (by omega);rw[a3];generalize lo+c=at' at*;clear hl;go_enter func80,ntmps80;go_wp2_with fail;refine A5 (C3 rfl _ _ _) rfl ?_;exact⟨rfl,0,rfl⟩
 ·obtain⟨D,O,hm,C⟩:=a5;have N:=λh3=>ae (L:=s.data.toList) (at':=lo+c) (lo:=lo) (c:=c) h3 W rfl;have Q:=λj=> @Z8 s.data.toList (CA s.data.toList (lo+c)) lo c j;generalize ai:lo+c=at' at*;have a4:(CA s.data.toList at').length=3:=by simp[CA];omega
  have V:=A0 (C _ a4);clear C;have X:=A0 (N (by omega));clear N hl;have K:=Ux (s.extract at' (at'+3)) (by simp;omega);have u:=UA s at';rw[u] at K;have af:=A0 u;clear u;generalize an:D8 s.data.toList (CA s.data.toList at') lo c=p at*;have Y:=A0 Q;clear Q;go_enter func80,ntmps80;go_wp2_with (first
   |(at_lookup;refine wpList_lookup_groups _ rfl _ _ 152 rfl 9 73 3 .i64 Qr underlying152 (Uw _) (B+1) B n _ rfl O (by unfold maxLen;omega) _ _ rfl K ?_;intro v ax E r aq a2;clear a2;obtain⟨a0,ah,rfl,_⟩:=Aw r.1;clear O;have T:=(Cr r.1).1;have a9:=Uv E r V;clear E r;subst a9;rw[B4] at*)
   |fail)
  generalize P:p.length=U at*;have A:=A0 P;clear P;go_loopw [8,9,11,12] (λab aa y au wr=>∃m d k:Nat,ab= .int .i64 m/\aa= .int .i64 d/\k<=U/\y= .int .i64 ((k:Int) -1)/\m<=18/\d<=255/\lp s.data.toList at' (p.take k).reverse (m,d)=Cj s.data.toList at'/\∃q,wr=w.drewN q) (λ_ _ y _ _=>(intOf y+1).toNat)
  case atStart=>
   refine⟨0,0,U,rfl,rfl,A1 _,rfl,by omega,by omega,?_,0,rfl⟩;rw[<-A.out,D4];exact X
  case round=>
   obtain⟨m,d,k,rfl,rfl,hk,rfl,ak,hd,g,q,R⟩:=hrel;have h:=A0 R;clear R;rcases k with _|j
   ·have a:=A0 (show Cj s.data.toList at'=(m,d) by rw[<-g];rfl);clear g;rw[show(((0:Nat):Int) -1)= -1 from rfl];go_wp2_with fail;refine A5 (C3 rfl _ _ _) rfl ?_;exact⟨by rw[a.out];rfl,q,h⟩
   ·rw[show(((j+1:Nat):Int) -1)=(j:Int) by omega];have o:j<p.length:=by rw[A.out];omega
    have a8:=Y _ (BA o);rw[B1 o,W6,List.reverse_singleton,P5] at g;obtain⟨h0,_⟩|⟨_,b,off,cap,a6,G,hb,F⟩:=Da T
    ·rw[List.map_eq_nil_iff] at h0;rw[h0] at o;exact absurd o (by simp)
    ·injection a6 with e1 e2 e3;subst e1 e3;have a7:wr.cell? ⟨b,off+j,none⟩=some (.int .i64 ((p[j]:Nat):Int)):=by
      rw[h.out];have:=F j (by simpa using o);rw[HJ] at this;exact this
     clear F T;generalize p[j]=x at*;obtain⟨_,ap,_⟩:=a8;have ag:=A0 G;clear G e2;by_cases hf:255<at'-x
     ·have b1:decide ((at':Int) -(x:Int)<=255)=false:=by simp;omega
      have a:=A0 (show Cj s.data.toList at'=(m,d) by rw[<-g,lp,A4 hf]);clear g;go_wp2_with fail;refine A5 (C3 rfl _ _ _) rfl ?_;exact⟨by rw[a.out];rfl,q,h⟩
     ·have b1:decide ((at':Int) -(x:Int)<=255)=true:=by simp;omega
      rw[lp,A3 hf] at g;have a:=A0 g;clear g;have t:=dW s at' (at'-x) wr (by omega) (by omega) (by omega);rw[show((at'-x:Nat):Int)=(at':Int) -(x:Int) by omega] at t;have aj:=PM s.data.toList at' (at'-x);go_wp2_with fail;refine t.mono ?_;rintro e ac ⟨rfl,ar,S⟩;have l:=A0 S;clear S;have ao:ac.cell? ⟨b,off+j,none⟩=some (.int .i64 ((x:Nat):Int)):=by rw[l.out];exact a7
      have f:=a.out;clear a t;generalize Du s.data.toList at' (at'-x)=n0 at*;by_cases J:m<n0
      ·have b2:decide ((n0:Int)>(m:Int))=true:=by simp;omega
       have Z:decide ((m:Int)<(n0:Int))=true:=by simp;omega
       have av:IntKind.i64.wrap ((at':Int) -(x:Int))=(at':Int) -(x:Int):=C0 _ (by omega);rw[A4 J] at f;have I:((at'-x:Nat):Int)=(at':Int) -(x:Int):=by omega
       have z:=A0 I;clear I;by_cases i:n0=18
       ·rw[A4 i] at f;have a:=A0 f.symm;clear f;subst i;go_wp2_with fail;go_quiet (fail)
        go_wp2_with fail;refine A5 (C3 rfl _ _ _) rfl ?_;refine⟨by rw[a.out];exact ed rfl z.symm,_,by rw[l.out,h.out];simp only[J2];rfl⟩
       ·rw[A3 i] at f;have a:=A0 f;clear f;have a1:((n0:Int)==18)=false:=by simp;omega
        go_wp2_with fail;go_quiet (fail)
        go_wp2_with fail;exact⟨⟨n0,at'-x,j,rfl,by rw[z.out],by omega,rfl,by omega,by omega,a,_,by rw[l.out,h.out];simp only[J2];rfl⟩,by simp[intOf]⟩
      ·have b2:decide ((n0:Int)>(m:Int))=false:=by simp;omega
       have Z:decide ((m:Int)<(n0:Int))=false:=by simp;omega
       rw[A3 J] at f;by_cases i:m=18
       ·rw[A4 i] at f;have a:=A0 f.symm;clear f;subst i;go_wp2_with fail;refine A5 (C3 rfl _ _ _) rfl ?_;exact⟨by rw[a.out];rfl,_,by rw[l.out,h.out];simp only[J2];rfl⟩
       ·rw[A3 i] at f;have a:=A0 f;clear f;have a1:((m:Int)==18)=false:=by simp;omega
        go_wp2_with fail;exact⟨⟨m,d,j,rfl,rfl,by omega,rfl,by omega,by omega,a,_,by rw[l.out,h.out];simp only[J2];rfl⟩,by simp[intOf]⟩
end
section
open Go.RowKit Go.Maps Go.WideMaps
open Go.ChangeShapes (lits)
theorem ef(w:World)(L:List UInt8)(lo:Nat):G5 Unit (w.alloc (.map #[] 0)) w.heap.size w.heap.size 0 L lo 0:=
 ⟨.map [],World.ownsGroups_made _ _ _ _ _,isMap_empty,λ_ _=>Or.inl ⟨rfl,rfl⟩⟩
theorem eh{B:Nat}{a w:World}(h:Below B a w)(n:Nat):Below B a (w.drewN n):=h.trans ⟨rfl,rfl,rfl,A1 _,λ_ _=>rfl⟩
theorem NT{H:Type}{w:World}{B n:Nat}{L:List UInt8}{lo c:Nat}(h:G5 H w B B n L lo c):B<w.heap.size:=by
 obtain⟨D,⟨b,a,h1,_⟩,_⟩:=h;exact(HO.1 h1).1
end
section
open Go.RowKit Go.Maps Go.WideMaps
open Go.ChangeShapes (lits)
abbrev FG:An->List Value:=λt=>[.int .i64 t.1, t.2.1, t.2.2]
def Fg(l:List An):List Value:=l.flatMap FG
theorem ei(l:List An):(Fg l).length=l.length*3:=by
 induction l with
 |nil=>rfl
 |cons t l a=>simp[Fg] at a⊢;omega
theorem ej(l:List An):∀i (a:i<l.length) j,j<3->(Fg l)[i*3+j]?=(FG l[i])[j]?:=by
 induction l with
 |nil=>intro i a;simp at a
 |cons t l c=>
  intro i a j b;have e:Fg (t::l)=FG t++Fg l:=by simp[Fg]
  rw[e];rcases i with _|i
  ·rw[Nat.zero_mul,B2,HI (by simp;omega)];rfl
  ·rw[HU (by simp;omega)];have:=c i (by simpa using a) j b;rw[show(i+1)*3+j-(FG t).length=i*3+j by simp;omega,this];rfl
theorem Qs(l:List An)(t:An):Fg (l++[t])=Fg l++FG t:=by simp[Fg]
theorem UB:(prog.info? 145).map (λi=>(i.zero,i.size,i.bytes))=some (some (.agg #[.int .i64 0, .int .i64 0, .int .i64 0]),3,24):=by kernel_rfl
abbrev Jf(w:World)(v:Value)(l:List An):Prop:=Av w v 3 FG l
theorem UC{w:World}{base e n:Nat}{v:Value}{l:List An}(h:w.ownsRow base e 3 v n (Fg l)):Jf w v l/\n=l.length:=by
 obtain⟨hl,h⟩:=h;rw[ei] at hl;obtain rfl:n=l.length:=by omega
 refine⟨?_,rfl⟩;rcases h with⟨rfl,h0⟩|⟨g,cap,cur,rfl,f,hc,c,hm,hs,d⟩
 ·obtain rfl:=FA.1 h0;exact Cq λ_=>rfl
 ·refine⟨_,cap,rfl,c,nofun,Or.inr ⟨g,0,rfl,?_,λi a j b=>?_⟩⟩
  ·rcases BZ g w.heap.size with h|h
   ·exact h
   ·rw[B8 h] at hc;cases hc
  ·have h1:(cur.toList.take (l.length*3))[i*3+j]?=(Fg l)[i*3+j]?:=by rw[d]
   rw[ej l i a j b,HP (by omega)] at h1;simp only[World.cell?,hc,B2];simpa using h1
theorem NU(w:World)(x y a:Value)(t:TypeId):∀j u,[x,y,a][j]?=some u->(w.alloc (.cells #[x,y,a] t)).cell? ((⟨w,0,none⟩:Addr).add j)=some u:=by
 intro j u b;rw[Bo,B2,G7];simpa using b
theorem Qt(w:World)(q:Nat):w.grownBy (w.drewN q) none:=⟨rfl,rfl,rfl,A1 _,λ_ _ _=>rfl⟩
theorem UD{H:Type}{w w':World}{B n:Nat}{L:List UInt8}{lo c:Nat}{row:Option Nat}(h:G5 H w B B n L lo c)(d:w.grownBy w' row)(hb:some B≠row){a:Nat->Prop}(hs:w.Shuns B a)(hr:∀j,row=some j->a j):G5 H w' B B n L lo c:=by
 obtain⟨D,e,hm,b⟩:=h;exact⟨D,e.kept d hb (hs.rowsOff hr),hm,b⟩
theorem el{H:Type}{w:World}{B n:Nat}{L:List UInt8}{lo c:Nat}{a b:Nat->Prop}(h:G5 H w B B n L lo c)(hs:w.Shuns B a)(d:∀g,b g->a g\/w.heap.size<=g):w.Shuns B b:=by
 obtain⟨D,e,_,_⟩:=h;exact hs.reno e d
def FH(w wr:World)(L:List UInt8)(a:Value)(pre:List An)(i:Nat):Prop:=
 wr.ownsRow (w+1) 145 3 a pre.length (Fg pre)/\G5 Unit wr w.heap.size w.heap.size i L 0 i/\wr.Shuns w.heap.size (λg=>a.ownBlock=some g)/\Below w w wr
theorem en{w wr:World}{L:List UInt8}{a:Value}{pre:List An}{i:Nat}(h:FH w wr L a pre i)(q:Nat):FH w (wr.drewN q) L a pre i:=by
 obtain⟨h1,h2,h3,h4⟩:=h;have c:=NT h2;exact⟨h1.kept (Qt wr q) (by cases a.ownBlock<;>simp),UD h2 (Qt wr q) (by simp) h3 (λj b=>by cases b),h3.kept (Qt wr q) c (by simp),eh h4 q⟩
theorem UE{w wr f:World}{L:List UInt8}{c b:Value}{pre:List An}{i:Nat}{t:An}{e:TypeId}{cs:Array Value}(h:FH w wr L c pre i)
 (p:f.ownsRow (w+1) 145 3 b (pre.length+1) (Fg pre++FG t))(a:(wr.alloc (.cells cs e)).grownBy f c.ownBlock)
 (n:b.ownBlock=c.ownBlock\/b.ownBlock=some (wr.alloc (.cells cs e)).heap.size):FH w f L b (pre++[t]) i:=by
 obtain⟨h1,h2,h3,h4⟩:=h;have o:=NT h2;have d:=(Mx wr (.cells cs e) _).trans a;have l:some w.heap.size≠c.ownBlock:=λe=>by have:=Ah h1 _ e.symm;omega
 have q:wr.Shuns w.heap.size (λg=>b.ownBlock=some g):=el h2 h3 λg a=>by
  rcases n with h|h
  ·exact Or.inl (by rw[<-h];exact a)
  ·right;rw[h] at a;simp at a;omega
 refine⟨by rw[Qs,A9,N8];exact p,UD h2 d l h3 (λj m=>m),q.kept d o l,h4.grown d h4.size λk hk=>?_⟩;have:=Ah h1 k hk;omega
theorem eo{w wr b:World}{L:List UInt8}{a:Value}{pre:List An}{i:Nat}(h:FH w wr L a pre i)(e:G5 Unit b w.heap.size w.heap.size (i+1) L 0 (i+1))(d:b.Shuns w.heap.size (λg=>a.ownBlock=some g))(hb:KQ (λg=>a.ownBlock=some g) w.heap.size wr b):FH w b L a pre (i+1):=by
 obtain⟨h1,h2,h3,h4⟩:=h;exact⟨dZ hb h1 λg c=>⟨c,by have:=Ah h1 g c;omega⟩,e,d,h4.trans hb.1⟩
end
section
open Go.RowKit Go.Maps Go.WideMaps
open Go.ChangeShapes (lits)
theorem NW(t:An):∀u∈FG t,u.oneCell'=true:=by
 intro u a;simp only[FG,Dn,L2,or_false] at a;rcases a with rfl|rfl|rfl<;>rfl
theorem UF{w wr:World}(s:ByteArray){a:Value}{pre:List An}{i:Nat}(h:FH w wr s.data.toList a pre i)(hs:s.size<=1099511627776)(k:i<=s.size):
 Calls prog 81 #[.map (some w.heap.size), .string s, i] wr λe w'=>(∃v,e= .returned v)/\FH w w' s.data.toList a pre (i+1):=by
 have b:=h;obtain⟨h1,h2,h3,h4⟩:=h;have hc:=d9 (λg=>a.ownBlock=some g) s w.heap.size i 0 i wr h2 h3 (λg c=>(h1.lt g c).2) hs (by omega) (by omega);rw[B2] at hc;exact hc.mono λe l ⟨j,f,d,hb⟩=>⟨j,eo b f d hb⟩
theorem ep{w wr:World}(s:ByteArray){a:Value}{pre:List An}{i:Nat}(h:FH w wr s.data.toList a pre i)(hs:s.size<=1099511627776)(d:i<=s.size):
 Calls prog 80 #[.map (some w.heap.size), .string s, i] wr λe w'=>e= .returned (.tuple #[.int .i64 ((Cj s.data.toList i).1:Int), .int .i64 ((Cj s.data.toList i).2:Int)])/\FH w w' s.data.toList a pre i:=by
 have hc:=ee s w.heap.size i 0 i wr h.2.1 hs (by omega) (A7 _) (by omega);rw[B2] at hc;exact hc.mono λe f ⟨c,q,b⟩=>⟨c,by rw[b];exact en h q⟩
theorem er(s:ByteArray)(w:World)(hs:s.size<=1099511627776):
 Calls prog 36 #[.string s] w λe w'=>∃v,e= .returned v/\Jf w' v (CV s.data.toList s.size 0)/\(∃a cap,v= .slice a (CV s.data.toList s.size 0).length cap)/\Below w w w':=by
 have a7:= @run_makeMap prog;obtain⟨i0,K,Q,R,S⟩:=BW UB;have hl:s.data.toList.length=s.size:=by simp
 have C:=A0 hl;clear hl;have J:FH w (w.alloc (.map #[] 0)) s.data.toList (.slice none 0 0) [] 0:=
  ⟨C2 _ _ _ _,ef w s.data.toList 0,World.Shuns_made w _,(A2 _ _).alloc (A1 _) _⟩
 have H:=A0 J;clear J;go_enter func36,ntmps36;go_wp2_with fail
 go_step3
 go_wp2_with fail
 go_step3
 go_wp2_with fail;generalize w.alloc (.map #[] 0)=ab at*;go_loopw [3,5] (λY z wr=>∃(pre:List An) (i f:Nat),z= .int .i64 i/\i<=s.size/\s.size<=i+f/\pre.length<=i/\pre++CV s.data.toList f i=CV s.data.toList s.size 0/\FH w wr s.data.toList Y pre i) (λ_ z _=>s.size-(intOf z).toNat)
 case atStart=>exact⟨[],0,s.size,rfl,A7 _,by omega,A1 _,rfl,H⟩
 case round=>
  obtain⟨pre,i,f,rfl,L,hf,aa,P,E⟩:=hrel;obtain⟨a0,c0,rfl,_⟩:=Aw E.1;obtain⟨I,j⟩:=Hx2 P E;clear P E H;by_cases W:i=s.size
  ·subst W;have O:CV s.data.toList s.size 0=pre:=by
    rw[<-I.out];cases f with
    |zero=>simp[CV]
    |succ f=>rw[CV,A3 (by have:=C.out;omega),E5]
   have V:=A0 O;clear O;go_wp2_with fail;rw[Exit.noGoto_ret];go_ret;rw[V.out];exact⟨_,rfl,(UC j.out.1).1,⟨a0,c0,rfl⟩,j.out.2.2.2⟩
  ·have N:i<s.size:=by omega
   obtain⟨f,rfl⟩:∃g,f=g+1:=⟨f-1,by omega⟩;have c:=I.out;rw[CV,A4 (by rw[C.out];exact N),Mc s i N] at c;have o:=ep s j hs L;have u:=Np s.data.toList i;rw[C.out] at u;generalize Cj s.data.toList i=nd at*;obtain⟨n,d⟩:=nd;dsimp only at c o u;by_cases B:n=0
   ·rw[A4 B] at c;have D:=A0 c;clear c u;subst B;have a1:=s[i].toNat_lt;have a2:wrap64 (s[i].toNat:Int)=(s[i].toNat:Int):=Q9 _ (by omega);go_wp2_with fail;refine o.mono ?_;rintro e G ⟨rfl,q⟩;have b:=A0 q;clear q o j;go_wp2_with (first
     |(at_builtin;refine F0 _ rfl _ _ 95 rfl (w+1) 145 i0 _ 3 24 underlying95 K Q R S rfl (by decide) (.slice a0 pre.length c0) _ _ rfl (b.out.1.alloc _) ⟨G,0,none⟩ 1 1 (FG ((s[i].toNat:Int),0,0)) rfl rfl (NU _ _ _ _ _) (NW _) (by simp[maxLen];omega) (by omega) (by have:=NT b.out.2.1;simp;omega) ?_;intro T Z y p _ x)
     |fail)
    have l:=A0 (UE (t:=((s[i].toNat:Int),0,0)) b y p x);clear y p x b;have m:=UF s l hs L;refine m.mono ?_;rintro e ac ⟨⟨v,rfl⟩,r⟩;have A:=A0 r;clear r m l;go_wp2_with fail;exact⟨⟨pre++[((s[i].toNat:Int),0,0)],i+1,f,by go_num,by omega,by omega,by simp;omega,by rw[C1,P5];exact D,A⟩,by simp[intOf];omega⟩
   ·rw[A3 B] at c;have D:=A0 c;obtain⟨a9,a8,a3,a4,a5,a6,_⟩:3<=n/\n<=18/\1<=d/\d<=255/\d<=i/\i+n<=s.size/\True:=by
     rcases u with h|h
     ·injection h with h1 h2;exact absurd h1 B
     ·exact⟨h.1,h.2.1,h.2.2.1,h.2.2.2.1,h.2.2.2.2.1,h.2.2.2.2.2.1,trivial⟩
    clear c u;go_wp2_with fail;refine o.mono ?_;rintro e G ⟨rfl,q⟩;have b:=A0 q;clear q o j;go_wp2_with (first
     |(at_builtin;refine F0 _ rfl _ _ 95 rfl (w+1) 145 i0 _ 3 24 underlying95 K Q R S rfl (by decide) (.slice a0 pre.length c0) _ _ rfl (b.out.1.alloc _) ⟨G,0,none⟩ 1 1 (FG (0,(d:Int),(n:Int))) rfl rfl (NU _ _ _ _ _) (NW _) (by simp[maxLen];omega) (by omega) (by have:=NT b.out.2.1;simp;omega) ?_;intro T Z y p _ x)
     |fail)
    have l:=A0 (UE (t:=(0,(d:Int),(n:Int))) b y p x);clear y p x b;go_loopw [5,43] (λz F wr=>∃k:Nat,F= .int .i64 k/\z= .int .i64 ((i+k:Nat):Int)/\k<=n/\FH w wr s.data.toList T (pre++[(0,(d:Int),(n:Int))]) (i+k)) (λ_ F _=>n-(intOf F).toNat)
    case atStart=>exact⟨0,rfl,rfl,A7 _,l⟩
    case round=>
     obtain⟨k,rfl,rfl,hk,r⟩:=hrel;have A:=A0 r;clear r l;by_cases X:k=n
     ·subst X;go_wp2_with fail;exact⟨⟨pre++[(0,(d:Int),(k:Int))],i+k,f,rfl,by omega,by omega,by simp;omega,by rw[C1,P5];exact D,A⟩,by simp[intOf];omega⟩
     ·have m:=UF s A hs (by omega);go_wp2_with fail;refine m.mono ?_;rintro e ad ⟨⟨v,rfl⟩,M⟩;have U:=A0 M;clear M m;go_wp2_with fail;exact⟨⟨k+1,by go_num,by go_num,by omega,U⟩,by simp[intOf];omega⟩
end
theorem UG{b d n:Int}(h:¬(d=0/\n=0)):AJ (b,d,n)=(decide (b=0)&&decide (1<=d)&&decide (d<=255)&&decide (3<=n)&&decide (n<=18)):=A3 h
theorem Qu(b d n:Int)(w:World):
 Calls prog 163 #[.agg #[b, d, n]] w λe w'=>e= .returned (.bool (AJ (b,d,n)))/\Below w w w':=by
 have a:∀(w':World) (f:Bool),Below w w w'->f=AJ (b,d,n)->((Ending.returned (.bool f))= .returned (.bool (AJ (b,d,n)))/\Below w w w'):=λw' f hb h=>by rw[h];exact⟨rfl,hb⟩
 by_cases g:d=0
 ·by_cases hy:n=0
  ·subst g hy;by_cases h1:b<0
   ·go_enter func163,ntmps163;go_wp2
    go_ret;refine a _ _ ((A2 _ _).alloc (A1 _) _) ?_;simp[AJ];omega
   ·go_enter func163,ntmps163;go_wp2
    go_ret;refine a _ _ ((A2 _ _).alloc (A1 _) _) ?_;rw[AJ,A4 ⟨rfl,rfl⟩,show decide ((0:Int)<=b)=true by simp;omega];rfl
  ·subst g;have c:=A0 (UG (b:=b) (d:=0) (n:=n) (by omega));by_cases h1:b=0
   ·subst h1;go_enter func163,ntmps163;go_wp2
    go_ret;refine a _ _ ((A2 _ _).alloc (A1 _) _) ?_;rw[c.out];simp
   ·go_enter func163,ntmps163;go_wp2
    go_ret;refine a _ _ ((A2 _ _).alloc (A1 _) _) ?_;rw[c.out];simp[h1]
 ·have c:=A0 (UG (b:=b) (d:=d) (n:=n) (by omega));by_cases h1:b=0
  ·subst h1;by_cases h2:d<1
   ·go_enter func163,ntmps163;go_wp2
    go_ret;refine a _ _ ((A2 _ _).alloc (A1 _) _) ?_;rw[c.out];simp;omega
   by_cases h3:255<d
   ·go_enter func163,ntmps163;go_wp2
    go_ret;refine a _ _ ((A2 _ _).alloc (A1 _) _) ?_;rw[c.out];simp;omega
   by_cases h4:n<3
   ·go_enter func163,ntmps163;go_wp2
    go_ret;refine a _ _ ((A2 _ _).alloc (A1 _) _) ?_;rw[c.out];simp;omega
   go_enter func163,ntmps163;go_wp2
   go_ret;refine a _ _ ((A2 _ _).alloc (A1 _) _) ?_;rw[c.out,show decide (1<=d)=true by simp;omega,show decide (d<=255)=true by simp;omega,show decide (3<=n)=true by simp;omega];rfl
  ·go_enter func163,ntmps163;go_wp2
   go_ret;refine a _ _ ((A2 _ _).alloc (A1 _) _) ?_;rw[c.out];simp[h1]
end Go.Proofs.YtmajkjjjfodhlaaGreatDoor
