/- Part Mab. No condition of its own. -/
import Derived.Deep.RegionHeld3
import Derived.Deep.LoopGhost
import Derived.Test.YtmajkjjjfodhlaaGreatDoorMaa
namespace Go.Proofs.YtmajkjjjfodhlaaGreatDoor
open Go.RowKit Tryz Go.Shelf
set_option linter.all false
set_option maxRecDepth 100000
set_option maxHeartbeats 8000000
theorem A5:type_of%@bodyPost_ret:=@bodyPost_ret
theorem BA:type_of%@List.getElem_mem:=@List.getElem_mem
theorem BY:type_of%@Int.toNat_natCast:=@Int.toNat_natCast
theorem B1:type_of%@List.take_succ_eq_append_getElem:=@List.take_succ_eq_append_getElem
theorem B5:type_of%@List.length_take:=@List.length_take
theorem C0:type_of%@IntWalk.i64_in:=@IntWalk.i64_in
theorem D0:type_of%@Option.getD_some:=@Option.getD_some
theorem D4:type_of%@List.take_length:=@List.take_length
theorem E2:type_of%@List.take_of_length_le:=@List.take_of_length_le
theorem E3:type_of%@Lib.run_eql_slice_nil:=@Lib.run_eql_slice_nil
theorem E4:type_of%@Int.le_refl:=@Int.le_refl
theorem F4:type_of%@List.map_cons:=@List.map_cons
theorem G0:type_of%@Int.eq_ofNat_of_zero_le:=@Int.eq_ofNat_of_zero_le
theorem Hb:type_of%@Nat.add_zero:=@Nat.add_zero
theorem Hf:type_of%@List.ext_getElem:=@List.ext_getElem
theorem Hn:type_of%@cell_kept:=@cell_kept
theorem Ho:type_of%@wpList_append_own:=@wpList_append_own
theorem Hr:type_of%@Nat.sub_self:=@Nat.sub_self
theorem Hv:type_of%@grownBy_putObj':=@grownBy_putObj'
theorem Hx:type_of%@cell_one_new:=@cell_one_new
theorem HA:type_of%@Int.add_mul:=@Int.add_mul
theorem HJ:type_of%@List.getElem_map:=@List.getElem_map
theorem HR:type_of%@Nat.min_eq_left:=@Nat.min_eq_left
theorem H2:type_of%@IntKind.wrap_i64:=@IntKind.wrap_i64
theorem H5:type_of%@List.getElem_cons_zero:=@List.getElem_cons_zero
theorem H9:type_of%@List.getElem_take:=@List.getElem_take
theorem IR:type_of%@List.take_append_drop:=@List.take_append_drop
theorem Jx:type_of%@List.pairwise_iff_getElem:=@List.pairwise_iff_getElem
theorem KX:type_of%@Int.one_mul:=@Int.one_mul
theorem K0:type_of%@List.foldl_cons:=@List.foldl_cons
theorem K9:type_of%@List.length_filter_le:=@List.length_filter_le
theorem L3:type_of%@List.sum_cons:=@List.sum_cons
theorem L4:type_of%@List.take_take:=@List.take_take
theorem L5:type_of%@Option.eq_some_of_isSome:=@Option.eq_some_of_isSome
theorem M4:type_of%@KeepsFrom.refl:=@KeepsFrom.refl
theorem NB:type_of%@KeepsOthers.setCell:=@KeepsOthers.setCell
theorem NV:type_of%@List.foldl_append:=@List.foldl_append
theorem P7:type_of%@List.take_zero:=@List.take_zero
theorem Q9:type_of%@IntWalk.wrap64_in:=@IntWalk.wrap64_in
theorem S1:type_of%@Nat.eq_zero_or_pos:=@Nat.eq_zero_or_pos
theorem T1:type_of%@Int.mul_nonneg:=@Int.mul_nonneg
theorem VA:type_of%@List.getElem_range:=@List.getElem_range
section
attribute [local go_sem] Oper.semAt_some
theorem YR{w:World}{P:Nat->Prop}{n:NS}{t:Tr}(h:NodeP w P n t):t=[]\/∃k v,t=[(k,v)]:=by
 cases h
 ·exact .inl rfl
 ·exact .inr ⟨_,_,rfl⟩
theorem YS{w w':World}(h:Below w w w'):w.grownBy w' none:=⟨h.os,h.tape,h.output,h.size,λi a _=>h.block i a⟩
theorem Sy{w0:World}{n:NS}{t:Tr}(h:Bp w0 n t)(x y:Int)(hk:∀p∈t,x<=p.1/\p.1<y)(m:Nat)(hm:1<=m)(b:Nat)(w:World)(f:Below w0 w0 w)(h0:Aa w b [sv n.1,sv n.2.1,sv n.2.2] 76)(h1:Aa w (b+1) [x] 3)(h2:Aa w (b+1+1) [y] 3):
 SeqStopsK Fence.wide m prog 254 #[.pointer (some ⟨b,0,none⟩), .pointer (some ⟨b+1,0,none⟩), .pointer (some ⟨b+1+1,0,none⟩)] (λp:Gu t=>#[p.1.1, p.1.2]) Pt (λys=>ys.map (·.1)=t) (λpre=>pre.map (·.1)=t) t.length w:=λl H P I d c _ u z=>by
 have B:=FR (n:=m-1)|>.2 (KE h x y hk I (f.trans (d.mono f.size)));obtain⟨J,L,M,_⟩:=(h0.below d).three;have N:=(h1.below d).cell 0 rfl;have O:=(h2.below d).cell 0 rfl;obtain⟨g,G,F⟩:=Hx3 c z u;clear u z c d h0 h1 h2 f hk;refine Ht func254 rfl trivial ?_ rfl;simp only[ntmps254,D2,BV,C4,Nat.reduceAdd,Nat.reduceSub,F1,F2,GV,F3,B7,D3];gi_wp2;refine⟨trivial,B.mono ?_⟩;rintro e q ⟨a,cap,rfl,A,hb⟩;have i:Hid (H [] q):=g _ _ _ none G (YS hb) λ_ e=>by cases e
 have E:=A0 (CJ DL A).1;clear B A J L M N O hb;rcases YR h with rfl|⟨k,v,rfl⟩
 ·gi_wp2;refine GW λK r=>?_;gi_wp2
  go_end0
  exact⟨⟨_,rfl⟩, .inl ⟨_,rfl,i⟩⟩
 ·obtain⟨R,o,rfl,T,C,D⟩:=Pm E (k:=0) (by simp);simp only[Nat.zero_mul,Hb,H5] at C D;obtain⟨S,tmps,assign,body,hy,s⟩:=Ps (m-1) (F [] ⟨_,rfl⟩ (q.alloc (.cells #[k, v] 113)) (g _ _ _ none i (Mx _ _ none) λ_ e=>by cases e) (by simp));gi_wp2;refine GW λK r=>?_;gi_wp2;refine s.mono ?_;rintro e Q (⟨rfl,c,_⟩|⟨rfl,c⟩)<;>have j:=A0 c<;>clear c s hy
  ·gi_wp2;refine r _ _ ?_;gi_wp2
   go_end0
   exact⟨⟨_,rfl⟩, .inl ⟨_,rfl,j⟩⟩
  ·gi_wp2;refine A5 (results_none rfl _ _ _) rfl ?_;exact⟨⟨_,rfl⟩, .inr ⟨_,rfl,j⟩⟩
theorem Sz(m:Nat)(a b c:Value)(x y:Int)(w:World):
 CallsIn Fence.wide m prog 191 #[.agg #[a,b,c], x, y] w λe w'=>e= .returned (.func (.func 254) #[] #[.pointer (some ⟨w,0,none⟩), .pointer (some ⟨w+1,0,none⟩), .pointer (some ⟨w+1+1,0,none⟩)])/\St w w' [([a,b,c],76),([x],3),([y],3)]:=by
 refine Ht func191 rfl trivial ?_ rfl;simp only[ntmps191,D2,BV,C4,Nat.reduceAdd,Nat.reduceSub,F1,F2,GV,F3,B7,D3];gi_wp2;go_ret;exact⟨rfl,Po w [([a,b,c],76),([x],3),([y],3)]⟩
end
theorem YT(x:Int)(w:World):Calls prog 257 #[.slice none 0 0, x] w λe w'=>e= .returned (.int .i64 (-1))/\w'=w:=by
 go_enter func257,ntmps257;go_wp2_with fail;refine En λK a=>?_;go_wp2_with fail;go_ret;exact⟨rfl,rfl⟩
theorem YU(a c:Nat)(k x:Int)(w:World)(e:w.cell? ⟨a,0,none⟩=some (.int .i64 k)):
 Calls prog 257 #[.slice (some ⟨a,0,none⟩) 1 c, x] w λe w'=>e= .returned (.int .i64 (if k=x then 0 else-1))/\w'=w:=by
 by_cases h:k=x
 ·have b:(x==k)=true:=by simp[h]
  rw[A4 h];go_enter func257,ntmps257;go_wp2_with fail;refine En λK d=>?_;go_wp2_with fail;go_ret;exact⟨rfl,rfl⟩
 ·have b:(x==k)=false:=by simpa using λe=>h e.symm
  rw[A3 h];clear h;go_enter func257,ntmps257;go_wp2_with fail;refine En λK d=>?_;go_wp2_with fail;refine d _ _ ?_;go_wp2_with fail;go_ret;exact⟨rfl,rfl⟩
theorem Pw{w0:World}{n:NS}{t:Tr}(h:Bp w0 n t)(x:Int)(w:World)(g:Below w0 w0 w):
 Calls prog 193 #[.agg #[sv n.1,sv n.2.1,sv n.2.2], x] w λe w'=>e= .returned (.tuple #[.int .i64 ((EI t x).getD 0), .bool (EI t x).isSome])/\Below w w w':=by
 obtain⟨q,r,S⟩:=FZ w [([sv n.1,sv n.2.1,sv n.2.2],76)];dsimp only[DM] at r;have o:=MU h q (g.trans (S.2.bl.mono g.size));obtain⟨u,y,z,_⟩:=S.2.bs.1.three;go_enter func193,ntmps193;go_wp2_with fail;refine o.mono ?_;rintro e A ⟨rfl,m⟩;have f:=S.2.call m;obtain⟨u,y,z,_⟩:=f.bs.1.three;have s:=JC h (g.trans (f.bl.mono g.size));clear o m g S h;cases s with
 |nil=>
  dsimp only[sv] at*;go_wp2_with fail;refine En λK l=>?_;go_wp2_with fail;refine(YT _ _).mono ?_;rintro e p ⟨rfl,rfl⟩;go_wp2_with fail;go_ret2;exact⟨rfl,f.bl⟩
 | @one a b c d k v ha hb pa pb hc hd ea eb=>
   dsimp only[sv] at*;have i:=YU a c k x A ea;by_cases e:k=x
   ·have j:Hid (EI [(k,v)] x=some v):=A4 e;rw[A4 e] at i;clear e;go_wp2_with fail;refine En λK l=>?_;go_wp2_with fail;refine i.mono ?_;rintro e p ⟨rfl,rfl⟩;go_wp2_with fail;go_ret2;exact⟨by rw[j.out];rfl,f.bl⟩
   ·have j:Hid (EI [(k,v)] x=none):=A3 e;rw[A3 e] at i;clear e;go_wp2_with fail;refine En λK l=>?_;go_wp2_with fail;refine i.mono ?_;rintro e p ⟨rfl,rfl⟩;go_wp2_with fail;go_ret2;exact⟨by rw[j.out];rfl,f.bl⟩
theorem YV{B:Nat}{a w:World}(h:Below B a w)(n:Nat):Below B a (w.drewN n):=h.trans ⟨rfl,rfl,rfl,A1 _,λ_ _=>rfl⟩
def Aq(n:Int):Int:=if n<=0 then 0 else(n-1)/32+1
theorem SA(n:Int)(w:World)(h:n<=9223372036854775807):
 Calls prog 12 #[n] w λe w'=>e= .returned (.int .i64 (Aq n))/\w=w':=by
 by_cases h0:n<=0
 ·go_enter func12,ntmps12;go_wp2
  go_ret;exact⟨by simp[Aq,h0],rfl⟩
 ·go_enter func12,ntmps12;go_wp2
  go_ret;exact⟨by simp;rw[Aq,A3 (by omega)],rfl⟩
theorem MW(c a s:Int)(p:Bool)(w:World)(h:s<=9223372036854775807):
 Calls prog 86 #[.agg #[c, a, s, .bool p]] w λe w'=>e= .returned (.int .i64 (Aq s))/\Below w w w':=by
 go_enter func86,ntmps86;go_wp2_with (go_at_call 12;refine(SA _ _ h).mono ?_;rintro e w' ⟨rfl,rfl⟩)
 go_ret;exact⟨rfl,(A2 _ _).alloc (A1 _) _⟩
def Cb(c a s:Int)(p:Bool):Bool:=decide (0<=c/\c<1000/\1<=s/\s<=256/\0<=a/\a+Aq s<=16/\(p=true\/s=256))
theorem Py(s:Int)(h:s<=256):0<=Aq s/\Aq s<=8:=by
 unfold Aq;split<;>omega
theorem LC(c a s:Int)(p:Bool)(w:World):
 Calls prog 174 #[.agg #[c, a, s, .bool p]] w λe w'=>e= .returned (.bool (Cb c a s p))/\Below w w w':=by
 have d:∀w',Below w w w'->Cb c a s p=false->((Ending.returned (.bool false))= .returned (.bool (Cb c a s p))/\Below w w w'):=by
  intro w' hb h;rw[h];exact⟨rfl,hb⟩
 by_cases h1:c<0
 ·go_enter func174,ntmps174;go_wp2
  go_ret;exact d _ ((A2 _ _).alloc (A1 _) _) (by simp[Cb];omega)
 by_cases h2:1000<=c
 ·go_enter func174,ntmps174;go_wp2
  go_ret;exact d _ ((A2 _ _).alloc (A1 _) _) (by simp[Cb];omega)
 by_cases h3:s<1
 ·go_enter func174,ntmps174;go_wp2
  go_ret;exact d _ ((A2 _ _).alloc (A1 _) _) (by simp[Cb];omega)
 by_cases h4:256<s
 ·go_enter func174,ntmps174;go_wp2
  go_ret;exact d _ ((A2 _ _).alloc (A1 _) _) (by simp[Cb];omega)
 by_cases h5:a<0
 ·have hd:decide (a<0)=true:=by simpa using h5
  go_enter func174,ntmps174;go_wp2
  go_quiet (fail)
  go_wp2
  go_ret;exact d _ (YV ((A2 _ _).alloc (A1 _) _) _) (by simp[Cb];omega)
 have hd:decide (a<0)=false:=by simpa using h5
 go_enter func174,ntmps174;go_wp2
 generalize g:Obj.cells #[Value.int IntKind.i64 c,Value.int IntKind.i64 a,Value.int IntKind.i64 s,Value.bool p] 162=k;generalize f:w.alloc k=b;have n:b.cell? ⟨w,0,none⟩=some (.int .i64 c):=by rw[<-f,<-g];simp
 have o:b.cell? ⟨w,1,none⟩=some (.int .i64 a):=by rw[<-f,<-g];simp
 have q:b.cell? ⟨w,2,none⟩=some (.int .i64 s):=by rw[<-f,<-g];simp
 have r:b.cell? ⟨w,3,none⟩=some (.bool p):=by rw[<-f,<-g];simp
 have v:w<b.heap.size:=by rw[<-f];simp
 have j:Below w w b:=by rw[<-f];exact(A2 _ _).alloc (A1 _) _
 have x:=Py s h4;have l:s<=9223372036854775807:=by omega
 have m:IntKind.i64.wrap (16-Aq s)=16-Aq s:=C0 _ (by omega);clear f g;go_region_held3 (Ch b) (first|exact IS|exact IQ (by assumption) (by assumption)) (first|(go_at_call 86;refine(MW c a s p _ l).mono ?_;rintro e w' ⟨rfl,hb⟩))
 clear m;have i:Ch b w':=by assumption
 have u:=i.1;by_cases h6:16-Aq s<a
 ·go_wp2
  go_ret;exact d _ (j.trans (i.2.mono (by omega))) (by simp[Cb];omega)
 ·cases p
  ·by_cases h7:s=256
   ·subst h7;go_wp2
    go_ret;exact⟨by simp[Cb];omega,j.trans (i.2.mono (by omega))⟩
   ·have t:(s==256)=false:=by simpa using h7
    go_wp2
    go_ret;exact d _ (j.trans (i.2.mono (by omega))) (by simp[Cb];omega)
  ·go_wp2
   go_ret;exact⟨by simp[Cb];omega,j.trans (i.2.mono (by omega))⟩
theorem Pz{n:Nat}{a c:World}(hb:Below n a c):(∀b o,b<n->c.cell? ⟨b,o,none⟩=a.cell? ⟨b,o,none⟩)/\(∀b o,b<n->c.frozen? ⟨b,o,none⟩=a.frozen? ⟨b,o,none⟩):=
 ⟨λb o h=>hb.cell (p:=⟨b,o,none⟩) h,λb o h=>hb.frozen (p:=⟨b,o,none⟩) h⟩
theorem IV{c a s:Int}{p:Bool}(h:Cb c a s p=true):0<=c/\c<1000/\1<=s/\s<=256/\0<=a/\a+Aq s<=16/\(p=true\/s=256):=by
 simpa[Cb] using h
theorem PA{c a s:Int}{p:Bool}(h:Cb c a s p=true):0<=c/\c<1000/\1<=s/\s<=256/\0<=a/\a<=16:=by
 have:=IV h;have:=Py s (by omega);omega
theorem MX(w:World)(b c d e:Value)(t:TypeId):∃a,w.alloc (.cells #[b,c,d,e] t)=a/\a.cell? ⟨w,0,none⟩=some b/\a.cell? ⟨w,1,none⟩=some c/\a.cell? ⟨w,2,none⟩=some d/\
 a.cell? ⟨w,3,none⟩=some e/\w<a.heap.size/\Below w w a:=
 ⟨_,rfl,by simp,by simp,by simp,by simp,by simp,(A2 _ _).alloc (A1 _) _⟩
def BF(c a s:Int)(p:Bool):Int:=if Cb c a s p=true then((c*16+a)*257+s)*2+(if p=true then 1 else 0) else-1
theorem MY{c a s:Int}{p:Bool}(h:Cb c a s p=true):BF c a s p=((c*16+a)*257+s)*2+(if p=true then 1 else 0):=by
 rw[BF,A4 h]
theorem SB{c a s:Int}{p:Bool}(h:Cb c a s p=false):BF c a s p= -1:=by
 rw[BF,A3 (by simp[h])]
theorem YW(c a s:Int)(p:Bool)(w:World):
 Calls prog 87 #[.agg #[c, a, s, .bool p]] w λe w'=>e= .returned (.int .i64 (BF c a s p))/\Below w w w':=by
 cases hm:Cb c a s p
 ·have b:=SB hm;have d:=A0 b;clear b;go_enter func87,ntmps87;go_wp2_with (go_at_call 174;refine(LC _ _ _ _ _).mono ?_;rintro e w' ⟨rfl,hb⟩)
  go_ret;exact⟨by rw[d.out];simp,((A2 _ _).alloc (A1 _) _).trans (hb.mono (by simp))⟩
 ·have b:=MY hm;have d:=A0 b;have f:=PA hm;clear b;go_enter func87,ntmps87;go_wp2_with fail;refine(LC _ _ _ _ _).mono ?_;rintro e w' ⟨rfl,hb⟩;obtain⟨hc,hf⟩:=Pz hb;cases p
  ·go_wp2_with fail;go_ret;exact⟨by rw[d.out];simp,((A2 _ _).alloc (A1 _) _).trans (hb.mono (by simp))⟩
  ·go_wp2_with fail;go_ret;exact⟨by rw[d.out];simp,((A2 _ _).alloc (A1 _) _).trans (hb.mono (by simp))⟩
def BG(n:Int):Bool:=decide (0<=n)&&Cb (n/2/257/16) (n/2/257%16) (n/2%257) (n%2==1)
def JE(n:Int):Value:=if BG n=true then .agg #[.int .i64 (n/2/257/16), .int .i64 (n/2/257%16), .int .i64 (n/2%257), .bool (n%2==1)] else .agg #[.int .i64 0, .int .i64 0, .int .i64 0, .bool false]
theorem PB{n:Int}(h:BG n=false):JE n= .agg #[.int .i64 0, .int .i64 0, .int .i64 0, .bool false]:=by rw[JE,A3 (by simp[h])]
theorem Ii{n:Int}(h:BG n=true):JE n= .agg #[.int .i64 (n/2/257/16), .int .i64 (n/2/257%16), .int .i64 (n/2%257), .bool (n%2==1)]:=by rw[JE,A4 h]
theorem MZ{n:Int}(h:n<0):BG n=false:=by simp[BG];omega
theorem KF{n:Int}(h:0<=n):BG n=Cb (n/2/257/16) (n/2/257%16) (n/2%257) (n%2==1):=by simp[BG,h]
theorem SC{n:Int}(h:BG n=true):BF (n/2/257/16) (n/2/257%16) (n/2%257) (n%2==1)=n:=by
 have h0:0<=n:=by
  by_cases h0:0<=n
  ·exact h0
  ·rw[MZ (by omega)] at h;cases h
 rw[KF h0] at h;rw[MY h];by_cases h1:n%2=1
 ·simp[h1];omega
 ·simp[h1];omega
theorem LD(n:Int)(w:World)(m:n<=9223372036854775807):
 Calls prog 138 #[n] w λe w'=>e= .returned (.tuple #[JE n, .bool (BG n)])/\Below w w w':=by
 by_cases h0:n<0
 ·have h1:=MZ h0;have h2:=PB h1;obtain⟨c,a⟩:=Hx2 h2 h1;clear h1 h2;go_enter func138,ntmps138;go_wp2
  rw[c.out,a.out];exact A5 (v:= .tuple #[.agg #[.int .i64 0, .int .i64 0, .int .i64 0, .bool false], .bool false]) (by simp[results,results138,go_sem]) rfl ⟨rfl,(A2 _ _).alloc (A1 _) _⟩
 ·have h3:=KF (n:=n) (by omega);cases hm:Cb (n/2/257/16) (n/2/257%16) (n/2%257) (n%2==1)
  ·rw[hm] at h3;have h2:=PB h3;obtain⟨c,a⟩:=Hx2 h2 h3;clear h3 h2;go_enter func138,ntmps138;go_wp2_with fail;refine(LC _ _ _ _ _).mono ?_;rintro e w' ⟨rfl,hb⟩;obtain⟨hc,hf⟩:=Pz hb;have g:=hb.size;simp only[Bx] at g hc hf;go_wp2_with fail;obtain⟨l,f,h,i,j,k,d⟩:=Sr (w:=w') (b:=w.heap.size) (.int .i64 0) (.int .i64 0) (.int .i64 0) (.bool false) (L5 (by rw[hc _ _ (by omega)];simp)) (L5 (by rw[hc _ _ (by omega)];simp)) (L5 (by rw[hc _ _ (by omega)];simp)) (L5 (by rw[hc _ _ (by omega)];simp));rw[f,c.out,a.out];exact A5 (v:= .tuple #[.agg #[.int .i64 0, .int .i64 0, .int .i64 0, .bool false], .bool false]) (by simp[results,results138,go_sem,h,i,j,k]) rfl ⟨rfl,((((A2 _ _).alloc (A1 _) _).alloc (by simp) _).trans (hb.mono (by simp;omega))).trans d⟩
  ·rw[hm] at h3;have h2:=Ii h3;obtain⟨c,a⟩:=Hx2 h2 h3;clear h3 h2;go_enter func138,ntmps138;go_wp2_with fail;refine(LC _ _ _ _ _).mono ?_;rintro e w' ⟨rfl,hb⟩;obtain⟨hc,hf⟩:=Pz hb;have g:=hb.size;simp only[Bx] at g hc hf;go_wp2_with fail;obtain⟨l,f,h,i,j,k,d⟩:=Sr (w:=w') (b:=w.heap.size) (.int .i64 (n/2/257/16)) (.int .i64 (n/2/257%16)) (.int .i64 (n/2%257)) (.bool (n%2==1)) (L5 (by rw[hc _ _ (by omega)];simp)) (L5 (by rw[hc _ _ (by omega)];simp)) (L5 (by rw[hc _ _ (by omega)];simp)) (L5 (by rw[hc _ _ (by omega)];simp));rw[f,c.out,a.out];exact A5 (v:= .tuple #[.agg #[.int .i64 (n/2/257/16), .int .i64 (n/2/257%16), .int .i64 (n/2%257), .bool (n%2==1)], .bool true]) (by simp[results,results138,go_sem,h,i,j,k]) rfl ⟨rfl,((((A2 _ _).alloc (A1 _) _).alloc (by simp) _).trans (hb.mono (by simp;omega))).trans d⟩
theorem YX{c a s:Int}{p:Bool}(h:Cb c a s p=true):BG (BF c a s p)=true/\JE (BF c a s p)= .agg #[c, a, s, .bool p]:=by
 have hb:=IV h;have hs:=Py s (by omega);have j:1<=Aq s:=by unfold Aq;rw[A3 (by omega)];omega
 have i:=MY h;cases p
 ·have b:BF c a s false=((c*16+a)*257+s)*2:=by rw[i];simp
  have d:BF c a s false/2/257/16=c:=by rw[b];omega
  have e:BF c a s false/2/257%16=a:=by rw[b];omega
  have f:BF c a s false/2%257=s:=by rw[b];omega
  have g:(BF c a s false%2==1)=false:=by rw[b];simp
  have h0:0<=BF c a s false:=by rw[b];omega
  have hk:BG (BF c a s false)=true:=by rw[KF h0,d,e,f,g];exact h
  exact⟨hk,by rw[Ii hk,d,e,f,g]⟩
 ·have b:BF c a s true=((c*16+a)*257+s)*2+1:=by rw[i];simp
  have d:BF c a s true/2/257/16=c:=by rw[b];omega
  have e:BF c a s true/2/257%16=a:=by rw[b];omega
  have f:BF c a s true/2%257=s:=by rw[b];omega
  have g:(BF c a s true%2==1)=true:=by rw[b];simp
  have h0:0<=BF c a s true:=by rw[b];omega
  have hk:BG (BF c a s true)=true:=by rw[KF h0,d,e,f,g];exact h
  exact⟨hk,by rw[Ii hk,d,e,f,g]⟩
theorem YY(n:Int):∃c a s p,JE n= .agg #[.int .i64 c, .int .i64 a, .int .i64 s, .bool p]/\(BG n=true->BF c a s p=n):=by
 cases h:BG n
 ·exact⟨0,0,0,false,PB h,λb=>by cases b⟩
 ·exact⟨_,_,_,_,Ii h,λ_=>SC h⟩
theorem YZ(c a s:Int)(p:Bool):BF c a s p<=9223372036854775807:=by
 cases h:Cb c a s p
 ·rw[SB h];omega
 ·have:=PA h;rw[MY h];split<;>omega
section
attribute [local go_sem] Oper.semAt_some
structure Gv(id size:Int)(t:Tr):Prop where
 id1:1≤id
 id2:id≤1000
 sz0:0≤size
 sz1:size≤100000
 len:t.length≤1
 ok:∀p∈t,0≤p.1∧p.1<size∧BG p.2=true
theorem Y0{l:List (Int×Int)}{k:Int}(h:∀p∈l,p.1≠k):EI l k=none:=by
 induction l with
 |nil=>rfl
 |cons q l a=>
  have h1:=h q (by simp);unfold EI;rw[A3 h1];exact a λp hp=>h p (by simp[hp])
theorem M5{n:Int}(h:BG n=true):n<=9223372036854775807:=by
 have h1:=SC h;have h2:=YZ (n/2/257/16) (n/2/257%16) (n/2%257) (n%2==1);omega
theorem JF{id size:Int}{t:Tr}(h:Gv id size t){x y:Int}(a:x<=0)(hy:size<=y):∀p∈t,x<=p.1/\p.1<y:=λp hp=>by
 have:=h.ok p hp;omega
theorem Y1{w0:World}{n:NS}{t:Tr}(h:Bp w0 n t)(id size:Int)(f:Gv id size t)(w:World)(g:Below w0 w0 w):
 CallsIn Fence.wide 8 prog 190 #[.agg #[id, size,sv n.1,sv n.2.1,sv n.2.2]] w λe w'=>e= .returned (.bool true)/\Below w w w':=by
 obtain⟨P,a,_,S⟩:=FZ w [([id, size,sv n.1,sv n.2.1,sv n.2.2],78),([.bool false],4)];dsimp only[DM] at a;have a6:=f.id1;have a7:=f.id2;have a8:=f.sz0;have a9:=f.sz1;have s:=A0 f;have H:=FR (n:=8-1)|>.2 (MU h P (g.trans (S.bl.mono g.size)));obtain⟨c0,c1,c2,c3,c4⟩:=S.bs.1.five;clear f;refine M0 func190 rfl trivial ?_ rfl;simp only[ntmps190,D2,BV,C4,Nat.reduceAdd,Nat.reduceSub,F1,F2,GV,F3,B7,D3];gi_wp2;refine⟨trivial,H.mono ?_⟩;rintro e a2 ⟨rfl,hb⟩;have u:=S.call hb;obtain⟨c0,c1,c2,c3,c4⟩:=u.bs.1.five;have x:=FR (n:=8-1)|>.2 (Pw h 9223372036854775807 a2 (g.trans (u.bl.mono g.size)));rw[Y0 λp hp=>by have:=s.out.ok p hp;omega] at x;clear H hb;gi_wp2;refine⟨trivial,x.mono ?_⟩;rintro e o ⟨rfl,hb⟩;have E:=u.call hb;obtain⟨c0,c1,c2,c3,c4⟩:=E.bs.1.five;clear x hb;gi_wp2;refine⟨trivial,(Sz (8-1) (sv n.1) (sv n.2.1) (sv n.2.2) _ _ o).mono ?_⟩;rintro e L ⟨rfl,q⟩;have i:=E.call q.bl;have V:=Sy h (-9223372036854775808) 9223372036854775807 (JF s (by omega) (by omega)) (8-1) (by omega) o.heap.size L (g.trans (i.bl.mono g.size)) q.bs.1 q.bs.2.1 q.bs.2.2.1;have I:=i.bl.size;clear c0 c1 c2 c3 c4;gi_wp2;refine LB rfl (by omega) (gf:=254) (lb:=#[.pointer (some ⟨o,0,none⟩), .pointer (some ⟨o+1,0,none⟩), .pointer (some ⟨o+1+1,0,none⟩)]) rfl trivial (enters_of func254 (by kernel_rfl) rfl)
  V (λ_ _=>trivial) (λ_ _ _ _ _ _ _ _=>trivial) (A2 _ _) (λ_=>rfl)
  (λ_ b=>(Aa b w.heap.size [id, size,sv n.1,sv n.2.1,sv n.2.2] 78/\Aa b (w+1) [.bool false] 4)/\Below w w b)
  (λ_ _ _=>False)
  (G6 (G6 (DY _ _ _ _) (DY _ _ _ _)) (IW (A1 _) I))
  (λ_ _ _ _ _ hs _ _=>hs)
  ⟨⟨i.bs.1,i.bs.2.1⟩,i.bl⟩
  ?round ?done ?stop
 case stop=>exact λD c pre b _ _ h _=>h.elim
 case round=>
  rintro l pre ⟨⟨pk,z⟩,hp⟩ b K F k;obtain⟨C,B⟩:=Hx2 k F;obtain⟨a4,g1,g2⟩:=s.ok (pk,z) (by rw[hp];simp);have W:=M5 g2;have M:=A0 g2;clear k F g2;gi_wp2;refine C _ _ (M4 _ _) trivial B ?_;clear C B;rintro X aa Q _ _ _ ⟨⟨j,d⟩,a⟩ _;obtain⟨c0,c1,c2,c3,c4⟩:=j.five;have y:=LD z Q W;rw[M.out] at y;gi_wp2;refine⟨trivial,(CallsIn.inRound X (FR (n:=8-1-1-1)|>.2 y)).mono ?_⟩;rintro e R ⟨rfl,v⟩;obtain⟨Y,Z,a0,a1,J⟩:=YY z;obtain⟨a3,a5,_,G,_⟩:=Fx R [Y, Z, a0, .bool a1] 162;have m:=v.trans (G.mono v.size);have A:=A0 (And.intro (KeepsOthers.below m) (And.intro (And.intro (j.below m) (d.below m)) (a.trans (m.mono a.size))));rw[J.1];clear y J v m G j d a c0 c1 c2 c3 c4;gi_wp2;exact⟨A.out.1.from _,trivial,A.out.2⟩
 case done=>
  rintro D ys b U _ ⟨⟨j,d⟩,a⟩ k;obtain⟨N,r,O⟩:=Hx3 (d.set 0 (.bool true)) ((NB b ⟨w+1,0,none⟩ (.bool true)).same D _ k rfl) (a.setCell (p:=⟨w+1,0,none⟩) (by show w<=w.heap.size+1;omega) (.bool true));have ac:=d.cell 0 rfl;have ad:=d.free 0;clear j d a k;gi_wp2;refine⟨by simp, .inl ⟨_,_,rfl,I0 r,?_⟩⟩;have T:=Hn (N.cell 0 rfl) (Hv _ D (.deferred none)) (λab e=>by cases e;exact⟨_,r,rfl⟩);refine⟨.bool true,?_,rfl,O.trans (belowK_b (w:=L) I _ D _ _ U r rfl rfl)⟩;simp[results,Tryz.f190,go_sem,T]
theorem SD{w0:World}{n:NS}{t:Tr}(h:Bp w0 n t)(id size:Int)(a:Gv id size t)(w:World)(b:Below w0 w0 w):
 Calls prog 190 #[.agg #[id, size,sv n.1,sv n.2.1,sv n.2.2]] w λe w'=>e= .returned (.bool true)/\Below w w w':=(FR (n:=8)).1 (Y1 h id size a w b)
end
section
attribute [local go_sem] Oper.semAt_some
abbrev V5:=Int×Int×NS
abbrev DZ(v:V5):List Value:=[v.1, v.2.1,sv v.2.2.1,sv v.2.2.2.1,sv v.2.2.2.2]
theorem Gw:Em DZ 5:=⟨by decide,λ_=>rfl,λx u a=>by simp at a;rcases a with rfl|rfl|rfl|rfl|rfl<;>rfl⟩
abbrev Vl:=Int×Int×Tr
def CU(w:World)(v:Value)(vs:List Vl):Prop:=
 ∃a:List V5,Av w v 5 DZ a/\a.length=vs.length/\∀i (b:i<a.length) (c:i<vs.length),a[i].1=vs[i].1/\a[i].2.1=vs[i].2.1/\Bp w (a[i].2.2) vs[i].2.2
def Ax(t:Tr):List Int:=t.map Prod.snd
def As(vs:List Vl):List Int:=vs.flatMap λv=>Ax v.2.2
def LE(l:List Int):Prop:=∀x∈l,∀y∈l,x=y
structure D5(vs:List Vl):Prop where
 len:vs.length≤64
 ok:∀v∈vs,Gv v.1 v.2.1 v.2.2
 rise:vs.Pairwise fun a b=>a.1<b.1
 one:LE (As vs)
theorem EJ{w w':World}{v:Value}{vs:List Vl}(h:CU w v vs)(hb:Below w w w'):CU w' v vs:=by
 obtain⟨c,h1,h2,h3⟩:=h;exact⟨c,Aj h1 hb,h2,λi a b=>⟨(h3 i a b).1,(h3 i a b).2.1,JC (h3 i a b).2.2 hb⟩⟩
theorem Fy{w:World}{v:Value}{vs:List Vl}(h:CU w v vs):∃a cap,v= .slice a vs.length cap:=by
 obtain⟨b,h1,h2,h3⟩:=h;obtain⟨a,cap,rfl,_⟩:=h1;exact⟨a,cap,by rw[h2]⟩
theorem GX{w:World}{a:Option Addr}{n cap:Nat}{vs:List Vl}(h:CU w (.slice a n cap) vs){k:Nat}(hk:k<vs.length):
 ∃b off,∃s:NS,a=some ⟨b,off,none⟩/\b<w.heap.size/\w.cell? ⟨b,off+k*5,none⟩=some (.int .i64 vs[k].1)/\w.cell? ⟨b,off+k*5+1,none⟩=some (.int .i64 vs[k].2.1)/\
  w.cell? ⟨b,off+k*5+2,none⟩=some (sv s.1)/\w.cell? ⟨b,off+k*5+3,none⟩=some (sv s.2.1)/\w.cell? ⟨b,off+k*5+4,none⟩=some (sv s.2.2)/\Bp w (s) vs[k].2.2:=by
 obtain⟨f,⟨l,m,e,hl,o,hc⟩,h2,h3⟩:=h;injection e with e1 e2 e3;subst e1 e2 e3;have c:k<f.length:=by omega
 rcases hc with hc|⟨b,off,rfl,hb,d⟩
 ·rw[hc] at c;simp at c
 ·obtain⟨g,i,j⟩:=h3 k c hk;refine⟨b,off,f[k].2.2,rfl,hb,?_,?_,?_,?_,?_,j⟩
  ·rw[<-g];exact d k c 0 (by omega)
  ·rw[<-i];exact d k c 1 (by omega)
  ·exact d k c 2 (by omega)
  ·exact d k c 3 (by omega)
  ·exact d k c 4 (by omega)
theorem M6{B:Nat}{w a:World}(h:Below B w a)(hs:B<=a.heap.size)(o:Obj):Below B w (a.alloc o).drew:=(h.alloc hs o).drew
theorem LF(v:Value)(vs:List Vl)(w:World)(G:CU w v vs)(F:D5 vs):
 Calls prog 120 #[v] w λe w'=>e= .returned (.bool true)/\Below w w w':=by
 obtain⟨J,I⟩:=Hx2 G F;have hl:=F.len;obtain⟨a0,c0,rfl⟩:=Fy G;clear G F;go_enter func120,ntmps120;go_wp2_with fail;go_loopw [10] (λi wr=>∃k:Nat,i= .int .i64 (k:Int)/\k<=vs.length/\Below w w wr) (λi _=>vs.length-(intOf i).toNat)
 case atStart=>exact⟨0,rfl,A7 _,A2 _ _⟩
 case round=>
  obtain⟨k,rfl,hk,a⟩:=hrel;by_cases L:k<vs.length
  ·obtain⟨b,off,⟨⟨t,q,n⟩,⟨u,r,o⟩,⟨z,s,p⟩⟩,rfl,hb,Q,R,S,T,U,N⟩:=GX (EJ J a) L;have P:=I.ok vs[k] (BA L);have M:=λX H=>SD N vs[k].1 vs[k].2.1 P X H;have K:=A0 M;have m:∀E:0<k,∃x:Int,wr.cell? ⟨b,off+(k-1)*5,none⟩=some (.int .i64 x)/\x<vs[k].1:=λE=>by
    obtain⟨Y,a6,_,C,_,f0,_⟩:=GX (EJ J a) (show k-1<vs.length by omega);injection C with C;injection C with hb1 c;subst hb1 c;exact⟨_,f0,Jx.1 I.rise _ _ _ _ (by omega)⟩
   generalize vs[k]=y at*;obtain⟨h,A,a7⟩:=y;dsimp only at Q R S T U m;have l:=A0 a;have O:=a.size;clear a M N P;have a1:(k:Int)<(vs.length:Int):=by omega
   have g1:(0:Int)<=(k:Int):=by omega
   rcases S1 k with E|V
   ·have b0:decide ((0:Int)<(k:Int))=false:=A6 (by omega);have b1:decide (0<k)=false:=A6 (by omega);have b2:¬0<k:=by omega
    have Z:¬(0:Int)<(k:Int):=by omega
    clear m E;go_wp2_with fail
    go_region
    have c:=M6 l O (.cells #[h, A, .slice t q n, .slice u r o, .slice z s p] 78);have d:=A0 c;have g:=K _ (M6 (A2 wr.heap.size wr) (A1 _) (.cells #[h, A, .slice t q n, .slice u r o, .slice z s p] 78));clear c;go_wp2_with fail;refine g.mono ?_;rintro e W ⟨rfl,f⟩;have B:=A0 (d.trans (f.mono d.size));clear g f;go_wp2_with fail;exact⟨⟨k+1,rfl,by omega,B⟩,by simp[intOf];omega⟩
   ·obtain⟨x,H,a5⟩:=m V;obtain⟨j,D⟩:∃j:Nat,(k:Int) -1=(j:Int)/\k-1=j/\(j:Int)<(vs.length:Int):=⟨k-1,by omega,rfl,by omega⟩;have b0:decide ((0:Int)<(k:Int))=true:=Hc (by omega);rw[D.2.1] at H;have a2:=D.1;have a3:=D.2.2;have a4:decide (h<=x)=false:=A6 (by omega);clear m;go_wp2_with fail
    go_region
    have c:=M6 l O (.cells #[h, A, .slice t q n, .slice u r o, .slice z s p] 78);have d:=A0 c;have g:=K _ (M6 (A2 wr.heap.size wr) (A1 _) (.cells #[h, A, .slice t q n, .slice u r o, .slice z s p] 78));clear c;go_wp2_with fail;refine g.mono ?_;rintro e W ⟨rfl,f⟩;have B:=A0 (d.trans (f.mono d.size));clear g f;go_wp2_with fail;exact⟨⟨k+1,rfl,by omega,B⟩,by simp[intOf];omega⟩
  ·obtain rfl:k=vs.length:=by omega
   have hd:decide ((vs.length:Int)<(vs.length:Int))=false:=A6 (by omega);have l:=A0 a;clear a;go_wp2_with fail;go_ret;exact⟨rfl,l⟩
end
def p2:Nat->Int
 |0=>1
 |n+1=>2*p2 n
theorem F5(n:Nat):p2 (n+1)=2*p2 n:=rfl
theorem D6(n:Nat):1<=p2 n:=by
 induction n with
 |zero=>decide
 |succ n a=>rw[F5];omega
theorem Gx{m n:Nat}(h:m<=n):p2 m<=p2 n:=by
 induction n with
 |zero=>obtain rfl:m=0:=by omega
        exact E4 _
 |succ n a=>
  by_cases e:m=n+1
  ·subst e;exact E4 _
  ·have:=a (by omega);have:=D6 n;rw[F5];omega
theorem M7(m n:Nat):p2 (m+n)=p2 m*p2 n:=by
 induction n with
 |zero=>simp[p2]
 |succ n a=>rw[<-Hl,F5,F5,a];rw[Int.mul_left_comm]
theorem JG(n:Nat):p2 n=2 ^ n:=by
 induction n with
 |zero=>rfl
 |succ n a=>rw[F5,a,Int.pow_succ];omega
theorem Y2:p2 62=4611686018427387904:=by decide
theorem PC{n:Nat}(h:n<=62):p2 n<=4611686018427387904:=by rw[<-Y2];exact Gx h
def Fd(n:Int)(i:Nat):Bool:=n/p2 i%2==1
def Ar(n:Int)(width:Nat):List Bool:=(List.range width).map λj=>Fd n (width-1-j)
theorem Ci(n:Int)(width:Nat):(Ar n width).length=width:=by simp[Ar]
def AA(l:List Bool):Int:=l.foldl (λn b=>2*n+(if b then 1 else 0)) 0
theorem SE(l:List Bool)(a:Int):l.foldl (λn b=>2*n+(if b then 1 else 0)) a=a*p2 l.length+AA l:=by
 unfold AA;induction l generalizing a with
 |nil=>simp[p2]
 |cons b l c=>
  rw[K0,c,K0,c (2*0+_),BV,F5];rw[HA,HA];have:2*a*p2 l.length=a*(2*p2 l.length):=by rw[Int.mul_comm 2 a,Int.mul_assoc]
  omega
theorem PD(l m:List Bool):AA (l++m)=AA l*p2 m.length+AA m:=by
 rw[AA,NV,<-AA,SE]
theorem PE(l:List Bool)(b:Bool):AA (l++[b])=AA l*2+(if b then 1 else 0):=by
 rw[PD];simp[p2,AA]
theorem M8(b:Bool)(l:List Bool):AA (b::l)=(if b then 1 else 0)*p2 l.length+AA l:=by
 rw[AA,K0,SE];simp
theorem IX(l:List Bool):0<=AA l/\AA l<p2 l.length:=by
 induction l with
 |nil=>exact⟨by decide,by decide⟩
 |cons b l a=>
  have:=D6 l.length;rw[M8,BV,F5];cases b<;>simp<;>omega
theorem Y3(n:Int)(m:Nat):n/p2 (m+1)=n/p2 m/2:=by
 rw[F5,Int.mul_comm,Int.ediv_ediv_of_nonneg (by have:=D6 m;omega)]
theorem Y4(n:Int)(w:Nat)(h0:0<=n)(h1:n<p2 w):∀k,k<=w->AA ((Ar n w).take k)=n/p2 (w-k):=by
 intro k;induction k with
 |zero=>intro _;rw[P7];exact(Int.ediv_eq_zero_of_lt h0 (by simpa using h1)).symm
 |succ k b=>
  intro hk;have a:k<(Ar n w).length:=by rw[Ci];omega
  rw[B1 a,PE,b (by omega)];have e:w-k=(w-(k+1))+1:=by omega
  have g:(Ar n w)[k]=Fd n (w-(k+1)):=by simp[Ar];congr 1;omega
  rw[e,Y3,g];unfold Fd;by_cases hb:n/p2 (w-(k+1))%2=1<;>simp[hb]<;>omega
theorem SF{n:Int}{w:Nat}(h0:0<=n)(h1:n<p2 w):AA (Ar n w)=n:=by
 have:=Y4 n w h0 h1 w (A1 _);rw[E2 (by rw[Ci];exact A1 _),Hr] at this;rw[this];simp[p2]
theorem Y5(l:List Bool):Ar (AA l) l.length=l:=by
 induction l with
 |nil=>rfl
 |cons b l c=>
  have hb:=IX l;have hp:=D6 l.length;rw[BV,M8];have q:∀m:Nat,m<l.length->Fd ((if b then 1 else 0)*p2 l.length+AA l) m=Fd (AA l) m:=by
   intro m hm;have e:p2 l.length=p2 m*(2*p2 (l.length-m-1)):=by
    rw[<-F5,<-M7];congr 1;omega
   unfold Fd;cases b
   ·simp
   ·simp only[if_true,KX];rw[e,Int.add_comm,Int.add_mul_ediv_left _ _ (by have:=D6 m;omega)];congr 1;omega
  have d:Fd ((if b then 1 else 0)*p2 l.length+AA l) l.length=b:=by
   unfold Fd;cases b
   ·simp[Int.ediv_eq_zero_of_lt hb.1 hb.2]
   ·simp only[if_true,KX];rw[Int.add_comm,show AA l+p2 l.length=AA l+p2 l.length*1 by omega,Int.add_mul_ediv_left _ _ (by omega),Int.ediv_eq_zero_of_lt hb.1 hb.2];rfl
  apply Hf
  ·rw[Ci];rfl
  ·intro i h1 h2;simp only[Ar,HJ,VA];cases i with
   |zero=>simpa using d
   |succ i=>
    rw[show l.length+1-1-(i+1)=l.length-1-i by omega,q _ (by simp at h2;omega)];have a:i<l.length:=by simpa using h2
    have:(Ar (AA l) l.length)[i]'(by rw[Ci];exact a)=l[i]:=by simp only[c]
    simpa[Ar] using this
theorem LG:(prog.info? 4).map (λi=>(i.zero,i.size,i.bytes))=some (some (.bool false),1,1):=by kernel_rfl
theorem SG(w:World)(e size:Nat):(w.alloc (.cells #[] e)).ownsRow w.heap.size e size (.slice (some ⟨w,0,none⟩) 0 0) 0 []:=
 ⟨by simp,Or.inr ⟨w,0,#[],rfl,A1 _,HE w _,A1 _,by simp[maxLen],by simp,by simp⟩⟩
theorem Y6(v:Value)(bs:List Bool)(w:World)(n:Av w v 1 (λx=>[.bool x]) bs)(hl:bs.length<=140737488355328):
 Calls prog 142 #[v] w λe w'=>∃f,e= .returned f/\w'.ownsRow w.heap.size 4 1 f bs.length (bs.map .bool)/\Below w w w':=by
 obtain⟨i0,q,z,A,B⟩:=BW LG;rcases Da n with⟨rfl,a0,c0,rfl,s⟩|⟨D,b0,h,c0,rfl,C,o,i⟩
 ·cases a0 with
  |none=>
   obtain rfl:=s rfl;have m:=λd:World=>E3 (P:=prog) d 25 4 none 0 0 0 0 underlying25;go_enter func142,ntmps142;go_wp2
   go_ret;exact⟨_,rfl,⟨rfl,Or.inl ⟨rfl,rfl⟩⟩,A2 _ _⟩
  |some a=>
   have m:=λd:World=>E3 (P:=prog) d 25 4 (some a) 0 c0 0 0 underlying25;go_enter func142,ntmps142;go_wp2
   go_ret;exact⟨_,rfl,SG _ _ _,(A2 _ _).alloc (A1 _) _⟩
 ·have m:=λd:World=>E3 (P:=prog) d 25 4 (some ⟨b0,h,none⟩) bs.length c0 0 0 underlying25;have l:∀(j:Nat) (u:Value),(bs.map Value.bool)[j]?=some u->(w.alloc (.cells #[] 4)).cell? ((⟨b0,h,none⟩:Addr).add j)=some u:=by
   intro j u c;rw[Bo,HD _ _ _ o];rw[Hp] at c;cases g:bs[j]? with
   |none=>rw[g] at c;cases c
   |some x=>
    rw[g] at c;obtain⟨r,rfl⟩:=N2.1 g;rw[i j r];exact c
  have Hnews:=A0 l;clear l i n;go_enter func142,ntmps142;go_wp2_with (at_builtin;refine Ho _ rfl _ _ 25 rfl w.heap.size 4 i0 (.bool false) 1 1 underlying25 q z A B rfl (by decide) _ _ _ rfl (SG w 4 1) ⟨b0,h,none⟩ bs.length c0 (bs.map Value.bool) rfl ?hl Hnews ?h1 ?h63 ?hby ?hbase ?_)
  case hl=>simp
  case h1=>exact λu y=>by obtain⟨b,_,rfl⟩:=E1.1 y;rfl
  case h63=>simp[maxLen];omega
  case hby=>omega
  case hbase=>simp
  intro f w' t p _;go_wp2
  go_ret;exact⟨f,rfl,t,((A2 _ _).alloc (A1 _) _).grown p (by simp) (λk hk=>by simp only[Value.ownBlock,Hs] at hk;omega)⟩
def EK(n width:Int):Bool:=decide (0<=width/\width<=30/\0<=n/\n<p2 width.toNat)
theorem Y7{x:Int}(h0:0<=x)(h1:x<9223372036854775808):bits .and .i64 x 1=x%2:=
 bits_mask .i64 63 (by decide) (λn a b=>by rw[H2];omega) 1 (by decide) x h0 h1
theorem Y8(n:Int)(i:Nat)(h0:0<=n)(h1:n<9223372036854775808):(bits .and .i64 (n/2 ^ i) 1==1)=Fd n i:=by
 have hp:=D6 i;have e:(2:Int) ^ i=p2 i:=(JG i).symm;have h2:0<=n/p2 i:=Int.ediv_nonneg h0 (by omega);have h3:n/p2 i<=n:=Int.ediv_le_self _ h0;rw[e,Y7 h2 (by omega)];rfl
theorem SH(v:Value)(bs:List Bool)(n width:Int)(w:World)(C:Av w v 1 (λx=>[.bool x]) bs)(hl:bs.length<=140737488355232)(g:EK n width=true):
 Calls prog 167 #[v, n, width] w λe w'=>∃m,e= .returned (.tuple #[m, .bool true])/\w'.ownsRow w.heap.size 4 1 m (bs++Ar n width.toNat).length ((bs++Ar n width.toNat).map .bool)/\Below w w w':=by
 obtain⟨i0,y,E,F,G⟩:=BW LG;have A:0<=width/\width<=30/\0<=n/\n<p2 width.toNat:=by simpa[EK] using g
 obtain⟨h1,h2,h3,h4⟩:=A;clear g;obtain⟨a,rfl⟩:=G0 h1;rw[BY] at h4;rw[BY];have hp:=PC (n:=a) (by omega);have z:n<9223372036854775808:=by omega
 have D:wrap64 (2 ^ a)=p2 a:=by rw[<-JG];exact Q9 _ (by omega)
 go_enter func167,ntmps167;go_wp2_with fail;clear D;refine(Y6 v bs w C (by omega)).mono ?_;rintro e K ⟨I,rfl,B,q⟩;go_wp2_with fail;go_loopw [8,9] (λout i wr=>∃k:Nat,k<=a/\i= .int .i64 ((a:Int) -1-k)/\wr.ownsRow w.heap.size 4 1 out (bs.length+k) ((bs++(Ar n a).take k).map .bool)/\Below w w wr) (λ_ i _=>(intOf i+1).toNat)
 case atStart=>exact⟨0,A7 _,by simp,by simpa using B,q⟩
 case round=>
  obtain⟨k,hk,rfl,c,hb⟩:=hrel;by_cases f:k<a
  ·have s:=Y8 n (a-1-k) h3 z;have d:(Ar n a)[k]'(by rw[Ci];exact f)=Fd n (a-1-k):=by simp[Ar]
   obtain⟨Hstep,o⟩:=Hx2 (B1 (i:=k) (l:=Ar n a) (by rw[Ci];exact f)) d;clear d;generalize Fd n (a-1-k)=x at*;go_wp2_with (at_builtin;refine Ho _ rfl _ _ 25 rfl w.heap.size 4 i0 (.bool false) 1 1 underlying25 y E F G rfl (by decide) _ _ _ rfl (c.alloc _) ⟨wr,0,none⟩ 1 1 [.bool x] rfl rfl ?c1 ?c2 ?c3 ?c4 ?c5 ?_)
   case c1=>exact Hx _ _ _
   case c2=>simp[Value.oneCell']
   case c3=>simp[maxLen];omega
   case c4=>omega
   case c5=>have:=hb.size;simp;omega
   intro J H j u _;have r:Below w w H:=((hb.alloc hb.size _).grown u (by have:=hb.size;simp;omega) (λb t=>Ah c b t));have Hown2:=A0 j;clear j s;go_wp2
   exact⟨⟨k+1,by omega,by rw[show((a:Int) -1-↑(k+1))=(a:Int) -1-k-1 by omega],by
    have h:=Hown2.out;rw[Hstep.out,o.out];simpa[Hl] using h,r⟩,by simp[intOf];omega⟩
  ·obtain rfl:k=a:=by omega
   have p:=A0 c;clear c;go_wp2
   go_ret2;exact⟨_,rfl,by
    have h:=p.out;rw[E2 (by rw[Ci];exact A1 _)] at h;rw[A9,Ci];exact h,hb⟩
section
def Az(l:List Int)(n:Nat):Nat:=(l.filter (·==(n:Int))).length
def AX(l:List Int):Nat->Int
 |0=>0
 |n+1=>(AX l n+(if n=0 then 0 else(Az l n:Int)))*2
theorem SI(l:List Int)(n:Nat):AX l (n+1)=(AX l n+(if n=0 then 0 else(Az l n:Int)))*2:=rfl
def Dr(n:Int):Int:=if 0<n/\n<16 then p2 (15-n.toNat) else 0
def BH(l:List Int):Int:=(l.map Dr).sum
def DC(l:List Int)(s:Nat):Int:=AX l (l[s]?.getD 0).toNat+Az (l.take s) (l[s]?.getD 0).toNat
def AI(l:List Int):Bool:=decide (l.length<=300)&&l.all (λn=>decide (0<=n/\n<=15))&&decide (BH l<=32768)
theorem SJ(n:Nat):Az [] n=0:=rfl
theorem SK(a b:List Int)(n:Nat):Az (a++b) n=Az a n+Az b n:=by simp[Az]
theorem Y9(x:Int)(n:Nat):Az [x] n=if x=n then 1 else 0:=by
 unfold Az;by_cases h:x=n<;>simp[h]
theorem IY(a:List Int)(x:Int)(n:Nat):Az (a++[x]) n=Az a n+if x=n then 1 else 0:=by rw[SK,Y9]
theorem PF(l:List Int)(s n:Nat):Az (l.take s) n<=Az l n:=by
 have:Az l n=Az (l.take s) n+Az (l.drop s) n:=by rw[<-SK,IR]
 omega
theorem M9(l:List Int)(s n:Nat)(hs:s<l.length)(h:l[s]=(n:Int)):Az (l.take s) n<Az l n:=by
 have h1:=PF l (s+1) n;rw[B1 hs,IY,A4 h] at h1;omega
theorem SL(l:List Int)(n:Nat):Az l n<=l.length:=K9 _ _
theorem SM(l:List Int){s t n:Nat}(h:s<=t):Az (l.take s) n<=Az (l.take t) n:=by
 have:=PF (l.take t) s n
 rwa [L4,HR h] at this
theorem SN(a:List Int)(x:Int):BH (a++[x])=BH a+Dr x:=by simp[BH,List.sum_append]
theorem Za(x:Int):0<=Dr x/\Dr x<=16384:=by
 unfold Dr;by_cases h:0<x/\x<16
 ·rw[A4 h];have h1:=D6 (15-x.toNat);have h2:=Gx (m:=15-x.toNat) (n:=14) (by omega);have h3:p2 14=16384:=by decide
  omega
 ·rw[A3 h];omega
theorem Zb(l:List Int):0<=BH l/\BH l<=16384*l.length:=by
 unfold BH;induction l with
 |nil=>simp
 |cons x l a=>
  have:=Za x;simp only[F4,L3,BV];omega
def EL(l:List Int):Nat->Int
 |0=>0
 |n+1=>EL l n+Az l (n+1)*p2 (15-(n+1))
theorem JH(l:List Int)(n:Nat):EL l (n+1)=EL l n+Az l (n+1)*p2 (15-(n+1)):=rfl
theorem Zc(n:Nat):EL [] n=0:=by
 induction n with
 |zero=>rfl
 |succ n a=>rw[JH,a,SJ];simp
theorem Zd(a:List Int)(x:Int)(n:Nat):EL (a++[x]) n=EL a n+if 0<x/\x<=n then p2 (15-x.toNat) else 0:=by
 induction n with
 |zero=>
  have:¬(0<x/\x<=((0:Nat):Int)):=by omega
  rw[A3 this];rfl
 |succ n b=>
  rw[JH,JH,b,IY];by_cases h:x=((n+1:Nat):Int)
  ·subst h;have h1:¬(0<((n+1:Nat):Int)/\((n+1:Nat):Int)<=(n:Int)):=by omega
   have h2:(0<((n+1:Nat):Int)/\((n+1:Nat):Int)<=((n+1:Nat):Int)):=by omega
   rw[A3 h1,A4 h2,A4 rfl,BY];rw[show(((Az a (n+1)+1:Nat)):Int)=(Az a (n+1):Int)+1 by omega,HA];omega
  ·rw[A3 h];by_cases h1:0<x/\x<=(n:Int)
   ·rw[A4 h1,A4 (by omega)];simp only[Hb];omega
   ·rw[A3 h1,A3 (by omega)];simp only[Hb];omega
theorem Ze(l:List Int)(h:∀x∈l,0<=x/\x<=15):EL l 15=BH l:=by
 have:∀k,k<=l.length->EL (l.take k) 15=BH (l.take k):=by
  intro k;induction k with
  |zero=>intro _;rw[P7,Zc];rfl
  |succ k b=>
   intro hk;have a:k<l.length:=by omega
   have:=h l[k] (BA a);rw[B1 a,Zd,SN,b (by omega)];unfold Dr;by_cases h0:0<l[k]
   ·rw[A4 (by omega),A4 (by omega)]
   ·rw[A3 (by omega),A3 (by omega)]
 have:=this l.length (A1 _)
 rwa [D4] at this
theorem SO(l:List Int){m n:Nat}(h:m<=n):EL l m<=EL l n:=by
 induction n with
 |zero=>obtain rfl:m=0:=by omega
        exact E4 _
 |succ n a=>
  by_cases e:m=n+1
  ·subst e;exact E4 _
  ·have:=a (by omega);have:=D6 (15-(n+1));have:0<=(Az l (n+1):Int)*p2 (15-(n+1)):=T1 (by omega) (by omega);rw[JH];omega
theorem SP(l:List Int):∀n,n<15->AX l (n+1)*p2 (15-(n+1))=EL l n:=by
 intro n;induction n with
 |zero=>intro _;simp[AX,EL]
 |succ n a=>
  intro b;rw[SI,A3 (by omega),JH,<-a (by omega)];have e:p2 (15-(n+1))=2*p2 (15-(n+1+1)):=by
   rw[<-F5];congr 1;omega
  rw[e,HA,HA];have a1:∀x p:Int,x*2*p=x*(2*p):=λx p=>Int.mul_assoc x 2 p;rw[a1,a1]
section
variable {l:List Int} (hr:∀x∈l,0≤x∧x≤15)
def GY(l:List Int)(s:Nat):Int:=DC l s*p2 (15-(l[s]?.getD 0).toNat)
def KG(l:List Int)(s:Nat):Int:=(DC l s+1)*p2 (15-(l[s]?.getD 0).toNat)
theorem Na(l:List Int)(n:Nat):0<=AX l n:=by
 induction n with
 |zero=>exact E4 _
 |succ n a=>rw[SI];split<;>omega
theorem SQ(l:List Int)(s:Nat):0<=DC l s:=by
 have:=Na l (l[s]?.getD 0).toNat;unfold DC;omega
theorem Nb{s n:Nat}(hs:s<l.length)(h:l[s]=((n+1:Nat):Int))(a:n<15):GY l s=EL l n+Az (l.take s) (n+1)*p2 (15-(n+1)):=by
 have e:(l[s]?.getD 0).toNat=n+1:=by rw[Bl hs,D0,h,BY]
 unfold GY DC;rw[e,HA,SP l n a]
theorem SR{s n:Nat}(hs:s<l.length)(h:l[s]=((n+1:Nat):Int)):KG l s=GY l s+p2 (15-(n+1)):=by
 have e:(l[s]?.getD 0).toNat=n+1:=by rw[Bl hs,D0,h,BY]
 unfold KG GY;rw[e,HA,KX]
theorem Zf{s n:Nat}(hs:s<l.length)(h:l[s]=((n+1:Nat):Int))(a:n<15):EL l n<=GY l s:=by
 have:=D6 (15-(n+1));have:0<=(Az (l.take s) (n+1):Int)*p2 (15-(n+1)):=T1 (by omega) (by omega);rw[Nb hs h a];omega
theorem Nc{a b p:Int}(h:a<=b)(hp:0<=p):a*p<=b*p:=Int.mul_le_mul_of_nonneg_right h hp
theorem Zg{s n:Nat}(hs:s<l.length)(h:l[s]=((n+1:Nat):Int))(c:n<15):KG l s<=EL l (n+1):=by
 have hp:=D6 (15-(n+1));have h1:=M9 l s (n+1) hs h;rw[SR hs h,Nb hs h c,JH];have h2:=Nc (a:=(Az (l.take s) (n+1):Int)+1) (b:=(Az l (n+1):Int)) (p:=p2 (15-(n+1))) (by omega) (by omega);rw[HA,KX] at h2;omega
theorem Zh{s t m n:Nat}(hs:s<l.length)(g:t<l.length)(hm:l[s]=((m+1:Nat):Int))(e:l[t]=((n+1:Nat):Int))(d:m<15)(f:n<15)(c:m<n\/(m=n/\s<t)):KG l s<=GY l t:=by
 rcases c with c|⟨rfl,c⟩
 ·exact Int.le_trans (Zg hs hm d) (Int.le_trans (SO l c) (Zf g e f))
 ·have hp:=D6 (15-(m+1));rw[SR hs hm,Nb hs hm d,Nb g e f];have h1:=M9 (l.take t) s (m+1) (by rw[B5];omega) (by rw[H9];exact hm);rw[L4,HR (by omega)] at h1;have h2:=Nc (a:=(Az (l.take s) (m+1):Int)+1) (b:=(Az (l.take t) (m+1):Int)) (p:=p2 (15-(m+1))) (by omega) (by omega);rw[HA,KX] at h2;omega
end
end
end Go.Proofs.YtmajkjjjfodhlaaGreatDoor
