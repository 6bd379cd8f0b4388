/- Part Mae. No condition of its own. -/
import Derived.Handy
import Derived.Test.YtmajkjjjfodhlaaGreatDoorMad
namespace Go.Proofs.YtmajkjjjfodhlaaGreatDoor
open Go.RowKit Tryz
set_option linter.all false
set_option maxRecDepth 100000
set_option maxHeartbeats 8000000
theorem Di:type_of%@List.length_set:=@List.length_set
theorem Hy:type_of%@Array.length_toList:=@Array.length_toList
theorem HX:type_of%@World.frozen?_setCell:=@World.frozen?_setCell
theorem I3:type_of%@List.map_set:=@List.map_set
theorem J2:type_of%@World.drewN_drewN:=@World.drewN_drewN
theorem K1:type_of%@List.getElem?_set_self:=@List.getElem?_set_self
theorem W0:type_of%@List.mem_of_find?_eq_some:=@List.mem_of_find?_eq_some
def AC(t:An):Int:=if AJ t=true then(if 0<t.2.2 then 253+t.2.2 else t.1) else-1
theorem TJ{t:An}(h:AJ t=false):AC t= -1:=by unfold AC;rw[h];rfl
theorem JL{b d n:Int}(h:AJ (b,d,n)=true):(n=0/\d=0/\0<=b/\b<=255)\/(b=0/\1<=d/\d<=255/\3<=n/\n<=18):=by
 unfold AJ at h;by_cases h0:d=0/\n=0
 ·rw[A4 h0] at h;simp at h;exact Or.inl ⟨h0.2,h0.1,h.1,h.2⟩
 ·rw[A3 h0] at h;simp at h;exact Or.inr ⟨h.1.1.1.1,h.1.1.1.2,h.1.1.2,h.1.2,h.2⟩
theorem LT{b d n:Int}(h:AJ (b,d,n)=true):0<=AC (b,d,n)/\AC (b,d,n)<272/\(0<n->AC (b,d,n)=253+n/\256<=AC (b,d,n))/\(¬0<n->AC (b,d,n)=b/\AC (b,d,n)<256):=by
 have hp:=JL h;unfold AC;rw[A4 h];by_cases a:0<n
 ·rw[A4 a];refine⟨?_,?_,λ_=>⟨rfl,?_⟩,λk=>absurd a k⟩<;>simp only[]<;>omega
 ·rw[A3 a];refine⟨?_,?_,λk=>absurd k a,λ_=>⟨rfl,?_⟩⟩<;>simp only[]<;>omega
def CW(l:List An):List Int:=(List.range 272).map λs:Nat=>((l.filter λt=>AC t==(s:Int)).length:Int)
theorem GD(l:List An):(CW l).length=272:=by simp[CW]
theorem bm:CW []=List.replicate 272 0:=
 List.eq_replicate_iff.2 ⟨GD [],λb hb=>by obtain⟨_,_,rfl⟩:=E1.1 hb;rfl⟩
theorem Nw(l:List An){s:Nat}(hs:s<272):(CW l)[s]?=some (((l.filter λt=>AC t==(s:Int)).length:Nat):Int):=by
 simp[CW,hs]
theorem bn(l:List An)(t:An){s:Nat}(hs:s<272)(h:AC t=s):CW (l++[t])=(CW l).set s (((l.filter λt=>AC t==(s:Int)).length:Int)+1):=by
 apply I2;intro i;by_cases a:i<272
 ·rw[Nw _ a];by_cases e:s=i
  ·subst e;rw[K1 (by rw[GD];exact hs),H4];simp[h]
  ·rw[N6 e,Nw _ a,H4];have:(AC t==(i:Int))=false:=by rw[h];simp;omega
   simp[this]
 ·rw[E9 (by rw[GD];omega),E9 (by rw[Di,GD];omega)]
theorem Nx(l:List An):∀x∈CW l,0<=x/\x<=l.length:=by
 intro x a;obtain⟨s,_,rfl⟩:=E1.1 a;have:=K9 (λt=>AC t==(s:Int)) l;omega
theorem bo{l:List An}{t:An}(a:t∈l){s:Nat}(hs:s<272)(h:AC t=s):∃x,(CW l)[s]?=some x/\0<x:=by
 refine⟨_,Nw l hs,?_⟩;have:t∈l.filter λt=>AC t==(s:Int):=HK.2 ⟨a,by simp[h]⟩;have:=List.length_pos_of_mem this;omega
def CL(L:List Int)(k:Nat):Nat:=((List.range k).filter λs=>decide (0<L[s]?.getD 0)).length
def FD(L:List Int)(k:Nat):List Bool:=((List.range k).filter λs=>decide (0<L[s]?.getD 0)).flatMap λs:Nat=>Ar (s:Int) 9++Ar (L[s]?.getD 0) 4
def Dw(L:List Int)(t:An):List Bool:=BI L (AC t).toNat++(if 0<t.2.2 then Ar t.2.1 8 else[])
def Ff(L:List Int)(l:List An):List Bool:=Ar (CL L 272:Nat) 9++FD L 272++l.flatMap (Dw L)
theorem PZ(L:List Int)(k:Nat):CL L (k+1)=CL L k+(if 0<L[k]?.getD 0 then 1 else 0):=by
 unfold CL;rw[HL,H4,A9];by_cases h:0<L[k]?.getD 0<;>simp[h]
theorem P0(L:List Int)(k:Nat):FD L (k+1)=FD L k++(if 0<L[k]?.getD 0 then Ar (k:Int) 9++Ar (L[k]?.getD 0) 4 else[]):=by
 unfold FD;rw[HL,H4,HB];by_cases h:0<L[k]?.getD 0<;>simp[h]
theorem LU(L:List Int)(k:Nat):CL L k<=k:=by
 unfold CL;have:=K9 (λs=>decide (0<L[s]?.getD 0)) (List.range k);simpa using this
theorem TK(L:List Int)(k:Nat):(FD L k).length=13*CL L k:=by
 induction k with
 |zero=>rfl
 |succ k a=>
  rw[P0,PZ,A9,a];by_cases h:0<L[k]?.getD 0<;>simp[h,Ci]<;>omega
def Es(l:List An):Bool:=decide (l.length<=1000)&&l.all AJ
def AS(b:List Bool)(p:Int)(width:Int):Option Int:=if 0<=width/\width<=30/\0<=p/\p+width<=b.length then some (AA ((b.drop p.toNat).take width.toNat)) else none
def BK(b:List Bool):Nat->Int->Int->List Int->Option (List Int×Int)
 |0,p,_,L=>some (L,p)
 |n+1,p,a,L=>match AS b p 9,AS b (p+9) 4 with
  |some s,some k=>if s<=a\/272<=s\/k=0 then none else BK b n (p+13) s (L.set s.toNat k)
  |_,_=>none
def Df(b:List Bool):Option (List Int×Int):=match AS b 0 9 with
 |some n=>match BK b n.toNat 9 (-1) (List.replicate 272 0) with
  |some (L,p)=>if AI L=true then some (L,p) else none
  |none=>none
 |none=>none
def CM(L:List Int)(b:List Bool)(p:Int):Option (An×Int):=match CK L b p with
 |some s=>if s<256 then some (((s:Int),0,0),p+L[s]?.getD 0) else match AS b (p+L[s]?.getD 0) 8 with
  |some d=>some ((0,d,(s:Int) -253),p+L[s]?.getD 0+8)
  |none=>none
 |none=>none
def BL(L:List Int)(b:List Bool)(many:Int):Nat->Int->Int->List An->Option (List An×Int)
 |0,_,_,_=>none
 |n+1,AL,p,out=>if AL<many then(match CM L b p with
   |some (t,q)=>if AJ t=false\/AL<t.2.1\/many<AL+max t.2.2 1 then none else BL L b many n (AL+max t.2.2 1) q (out++[t])
   |none=>none) else some (out,p)
def CB(b:List Bool)(many:Int):Option (List An×Int):=if many<0\/1000<many then none else match Df b with
 |some (L,p)=>BL L b many (many.toNat+1) 0 p []
 |none=>none
section
structure Au(S:Nat→Prop)(m:Nat)(w w':World):Prop where
 os:w'.os=w.os
 tape:w'.tape=w.tape
 output:w'.output=w.output
 size:w.heap.size≤w'.heap.size
 block:∀k,k<m→¬S k→w'.heap[k]?=w.heap[k]?
section
variable {S S':Nat→Prop} {m m':Nat} {w a b c:World}
theorem Au.refl(S:Nat->Prop)(m:Nat)(w:World):Au S m w w:=⟨rfl,rfl,rfl,A1 _,λ_ _ _=>rfl⟩
theorem Au.trans(h:Au S m a b)(k:Au S m b c):Au S m a c:=⟨k.os.trans h.os,k.tape.trans h.tape,k.output.trans h.output,A8 h.size k.size,λi d e=>(k.block i d e).trans (h.block i d e)⟩
theorem Au.mono(h:Au S m a b)(hm:m'<=m)(c:∀k,k<m'->S k->S' k):Au S' m' a b:=⟨h.os,h.tape,h.output,h.size,λk hk d=>h.block k (B3 hk hm) λhs=>d (c k hk hs)⟩
theorem Au.of(h:Below m a b):Au S m a b:=⟨h.os,h.tape,h.output,h.size,λk hk _=>h.block k hk⟩
theorem Au.below(h:Au S m a b)(c:∀k,k<m'->¬S k)(hm:m'<=m):Below m' a b:=⟨h.os,h.tape,h.output,h.size,λk hk=>h.block k (B3 hk hm) (c k hk)⟩
theorem Au.set(h:Au S m a b){p:Addr}(hp:S p.block\/m<=p.block)(u:Value):Au S m a (b.setCell p u):=
 h.trans ⟨rfl,rfl,rfl,by simp[World.setCell],λk hk c=>HG _ _ _ _ (by
   intro e;subst e;rcases hp with hp|hp
   ·exact c hp
   ·omega)⟩
theorem Au.drew(h:Au S m a b):Au S m a b.drew:=⟨h.os,h.tape,h.output,h.size,h.block⟩
theorem Au.drewN(h:Au S m a b)(n:Nat):Au S m a (b.drewN n):=h.trans ⟨rfl,rfl,rfl,A1 _,λ_ _ _=>rfl⟩
theorem Au.alloc(h:Au S m a b)(hm:m<=b.heap.size)(o:Obj):Au S m a (b.alloc o):=
 h.trans ⟨rfl,rfl,rfl,by simp,λk hk _=>H0 _ _ _ (by omega)⟩
theorem Au.then (h:Au S m a b)(k:Below b b c)(hm:m<=b.heap.size):Au S m a c:=h.trans (Au.of (k.mono hm))
theorem Au.cell(h:Au S m a b){p:Addr}(hp:p.block<m)(c:¬S p.block):b.cell? p=a.cell? p:=Q3 (w:=a) (h.block p.block hp c)
theorem Au.frozen(h:Au S m a b){p:Addr}(hp:p.block<m)(c:¬S p.block):b.frozen? p=a.frozen? p:=World.frozen?_of_block (w:=a) (h.block p.block hp c)
theorem Au.owns{base e size n:Nat}{v:Value}{xs:List Value}(h:Au S m a b)(i:a.ownsRow base e size v n xs)(hm:a<=m)(f:∀k,base<=k->¬S k):b.ownsRow base e size v n xs:=by
 obtain⟨h1,h2⟩:=i;refine⟨h1,?_⟩;rcases h2 with h2|⟨g,cap,cur,j,d,c,l⟩
 ·exact Or.inl h2
 ·have o:g<a.heap.size:=by
   rcases BZ g a.heap.size with h|h
   ·exact h
   ·rw[B8 h] at c;cases c
  exact Or.inr ⟨g,cap,cur,j,d,by rw[h.block g (by omega) (f g d)];exact c,l⟩
end
end
abbrev JM:Value:= .iface 420 (.agg #[])
structure BU(w:World)(r:Nat)(v:Value)(p:Int):Prop where
 lt:r<w.heap.size
 c0:w.cell? ⟨r,0,none⟩=some v
 c1:w.cell? ⟨r,1,none⟩=some (.int .i64 p)
 fz:w.frozen? ⟨r,1,none⟩=false
theorem BU.keep{w w':World}{a:Nat}{v:Value}{p:Int}(h:BU w a v p)(hb:Below w w w'):BU w' a v p:=
 ⟨B3 h.lt hb.size,by rw[hb.cell (p:=⟨a,0,none⟩) h.lt];exact h.c0,by rw[hb.cell (p:=⟨a,1,none⟩) h.lt];exact h.c1,by rw[hb.frozen (p:=⟨a,1,none⟩) h.lt];exact h.fz⟩
theorem BU.drewN{w:World}{a:Nat}{v:Value}{p:Int}(h:BU w a v p)(n:Nat):BU (w.drewN n) a v p:=⟨h.lt,h.c0,h.c1,h.fz⟩
theorem BU.set{w:World}{a:Nat}{v:Value}{p:Int}(h:BU w a v p)(q:Int):BU (w.setCell ⟨a,1,none⟩ (.int .i64 q)) a v q:=
 ⟨by simpa[World.setCell] using h.lt,DK h.c0 (by decide),Fw h.c1,by rw[HX];exact h.fz⟩
theorem BU.save{w w':World}{a m:Nat}{S:Nat->Prop}{v:Value}{p:Int}(h:BU w a v p)(hs:Au S m w w')(hr:a<m)(b:¬S a):BU w' a v p:=
 ⟨B3 h.lt hs.size,by rw[hs.cell (p:=⟨a,0,none⟩) hr b];exact h.c0,by rw[hs.cell (p:=⟨a,1,none⟩) hr b];exact h.c1,by rw[hs.frozen (p:=⟨a,1,none⟩) hr b];exact h.fz⟩
def br(bs:List Bool)(p width:Int)(a:Nat)(v:Value)(w:World)(e:Ending)(w':World):Prop:=
 Au (·=a) w.heap.size w w'/\((∃n,AS bs p width=some n/\e= .returned (.int .i64 n)/\BU w' a v (p+width))\/(AS bs p width=none/\e= .panicked [{v:=JM,recovered:=false}]))
theorem bv{bs:List Bool}{p width:Int}(h:Gz bs.length p width=true):AS bs p width=some (AA ((bs.drop p.toNat).take width.toNat)):=by
 unfold AS;rw[A4 (by simpa[Gz] using h)]
theorem bz{bs:List Bool}{p width:Int}(h:Gz bs.length p width=false):AS bs p width=none:=by
 unfold AS;rw[A3 (by simpa[Gz] using h)]
theorem Ny(d:Nat)(v:Value)(bs:List Bool)(p width:Int)(w:World)(hr:BU w d v p)(f:Gy w v bs)(hl:bs.length<=140737488355328)(u:p<=9223372036854775807):
 Calls prog 381 #[.pointer (some ⟨d,0,none⟩), width] w λe w'=>br bs p width d v w e w':=by
 have z:=hr.lt;have o:=hr.c0;have r:=hr.c1;have s:=A0 hr;by_cases b:Gz bs.length p width=true
 ·have g:=A0 (bv b);have c:∀a,Ch w a->Calls prog 396 #[v, p, width] a λe w'=>e= .returned (.tuple #[.int .i64 (AA ((bs.drop p.toNat).take width.toNat)), .int .i64 (p+width), .bool true])/\Below a a w':=λa j=>
   (Z4 v bs p width a (Aj f j.2) hl b).mono λe w' ⟨k,m⟩=>⟨k,m▸A2 _ _⟩
  clear f b hr;generalize AA ((bs.drop p.toNat).take width.toNat)=n at*;go_enter func381,ntmps381;go_wp2_with fail;go_region_held3 (Ch w) (first|exact IS|exact IQ (by assumption) (by assumption)) (first|(go_at_call 396;refine(c _ (by assumption)).mono ?_;rintro e w' ⟨rfl,hb⟩))
  rename Ch w w'=>hh
  have h:=A0 (s.keep hh.2);have y:=h.fz;have x:=h.c1;obtain⟨i,t⟩:=Hx2 (Au.of (S:=(·=d)) hh.2) (h.set (p+width));clear hh c o r;go_wp2_with fail;go_ret;exact⟨i.set (Or.inl rfl) _,Or.inl ⟨n,g,rfl,t⟩⟩
 ·have l:Gz bs.length p width=false:=by cases q:Gz bs.length p width with
   |true=>exact absurd q b
   |false=>rfl
  have g:=A0 (bz l);have c:∀a,Ch w a->Calls prog 396 #[v, p, width] a λe w'=>e= .returned (.tuple #[.int .i64 0, .int .i64 0, .bool false])/\Below a a w':=λa j=>
   (Z5 v bs p width a (Aj f j.2) hl u l).mono λe w' ⟨k,m⟩=>⟨k,m▸A2 _ _⟩
  clear f b l hr;go_enter func381,ntmps381;go_wp2_with fail;go_region_held3 (Ch w) (first|exact IS|exact IQ (by assumption) (by assumption)) (first|(go_at_call 396;refine(c _ (by assumption)).mono ?_;rintro e w' ⟨rfl,hb⟩))
  rename Ch w w'=>hh
  have i:=A0 (Au.of (S:=(·=d)) hh.2);clear hh c o r;go_wp2_with fail;exact⟨rfl,i,Or.inr ⟨g,rfl⟩⟩
def bA(L:List Int)(bs:List Bool)(p:Int)(a:Nat)(v:Value)(w:World)(e:Ending)(w':World):Prop:=
 Au (·=a) w.heap.size w w'/\((∃b d n q,CM L bs p=some ((b,d,n),q)/\e= .returned (.agg #[b, d, n])/\BU w' a v q)\/(CM L bs p=none/\e= .panicked [{v:=JM,recovered:=false}]))
theorem TL(w:World)(b c d:Value)(t:TypeId):∃a,w.alloc (.cells #[b,c,d] t)=a/\
 a.cell? ⟨w,0,none⟩=some b/\a.cell? ⟨w,1,none⟩=some c/\a.cell? ⟨w,2,none⟩=some d/\(∀o,a.frozen? ⟨w,o,none⟩=false)/\a=w.heap.size+1/\Below w w a:=
 ⟨_,rfl,by simp,by simp,by simp,λo=>World.frozen?_alloc_new w _ _ o,by simp,(A2 _ _).alloc (A1 _) _⟩
theorem GE{w:World}{a o b i:Nat}(u:Value)(h:b≠a):(w.setCell ⟨a,o,none⟩ u).cell? ⟨b,i,none⟩=w.cell? ⟨b,i,none⟩:=
 J1 w _ _ _ (by intro e;cases e;exact h rfl)
theorem P1{w:World}{b:Nat}{f g h:Value}(c d e:Value)(h0:w.cell? ⟨b,0,none⟩=some f)(h1:w.cell? ⟨b,1,none⟩=some g)(h2:w.cell? ⟨b,2,none⟩=some h):
 ∃a,((w.setCell ⟨b,0,none⟩ c).setCell ⟨b,1,none⟩ d).setCell ⟨b,2,none⟩ e=a/\a.cell? ⟨b,0,none⟩=some c/\a.cell? ⟨b,1,none⟩=some d/\a.cell? ⟨b,2,none⟩=some e/\Below b w a:=
 ⟨_,rfl,DK (DK (Fw h0) (by decide)) (by decide),DK (Fw (DK h1 (by decide))) (by decide),
   Fw (DK (DK h2 (by decide)) (by decide)),
   (((A2 b w).setCell (p:=⟨b,0,none⟩) (A1 b) c).setCell (p:=⟨b,1,none⟩) (A1 b) d).setCell (p:=⟨b,2,none⟩) (A1 b) e⟩
theorem bB{l:List Int}{b:List Bool}{p:Int}{s:Nat}(h:CK l b p=some s):s<l.length:=by
 unfold CK at h;split at h
 ·have:=W0 h;simpa using this
 ·cases h
theorem bC(t:World)(b:Nat)(v J:Value)(L:List Int)(bs:List Bool)(p:Int)(w:World)(hr:BU w b v p)(X:Gy t v bs)(T:Below t t w)(ap:t<=b)(a4:Av w J 1 (λx=>[.int .i64 x]) L)
 (hl:bs.length<=140737488355328)(aL:L.length<=272)(an:∀x∈L,0<=x/\x<=15)(aP:0<=p)(aT:p<=1407374883553280):
 Calls prog 352 #[.pointer (some ⟨b,0,none⟩),J] w λe w'=>bA L bs p b v w e w':=by
 obtain⟨h,a6,P,Q,R,a9,aX,D⟩:=TL w (.int .i64 0) (.int .i64 0) (.int .i64 0) 145;have G:=A0 (hr.keep D);have ab:=hr.lt;have aM:=G.lt;have a7:=G.c0;have a8:=G.c1;have F:=A0 (T.trans (D.mono T.size));have u:∀r,Ch h r->Calls prog 382 #[J,v, p] r λe w'=>e= .returned (JK L bs p)/\Below r r w':=λr a5=>
  Z3 J v L bs p r (Aj (Aj a4 D) a5.2) (Aj X (F.trans (a5.2.mono F.size))) (by omega) hl
 obtain⟨aj,a3,ak⟩:=Hx3 X D a9;have I:w<h.heap.size:=by omega
 have U:=P;have V:=Q;have W:=R;clear X T a4 D a9;cases j:CK L bs p with
 |none=>
  have l:Hid (CM L bs p=none):=by unfold Hid CM;rw[j]
  rw[LP j] at u;clear j;go_enter func352,ntmps352;go_wp2_with fail;clear a6;go_region_held3 (Ch h) (first|exact IS|exact IQ (by assumption) (by assumption)) (first|(go_at_call 382;refine(u _ (by assumption)).mono ?_;rintro e w' ⟨rfl,hb⟩))
  rename Ch h w'=>hh
  have ag:=A0 ((Au.of (S:=(·=b)) a3).trans ((Au.of hh.2).mono (by omega) (λ_ _ q=>q)));clear hh u a7 a8 P Q R U V W;go_wp2_with fail;exact⟨rfl,ag,Or.inr ⟨l,rfl⟩⟩
 |some s=>
  rw[To j] at u;have hs:=bB j;have hk:0<=L[s]?.getD 0/\L[s]?.getD 0<=15:=by rw[Bl hs];exact an _ (BA hs)
  have l:Hid (CM L bs p=if s<256 then some (((s:Int),0,0),p+L[s]?.getD 0) else match AS bs (p+L[s]?.getD 0) 8 with
   |some d=>some ((0,d,(s:Int) -253),p+L[s]?.getD 0+8)
   |none=>none):=by unfold Hid CM;rw[j];all_goals rfl
  have al:=A0 hs;clear j hs;generalize L[s]?.getD 0=k at*;have aU:0<=p+k/\p+k<=1407374883553300:=by omega
  generalize p+k=q at*;go_enter func352,ntmps352;go_wp2_with fail;clear a6;go_region_held3 (Ch h) (first|exact IS|exact IQ (by assumption) (by assumption)) (first|(go_at_call 382;refine(u _ (by assumption)).mono ?_;rintro e w' ⟨rfl,hb⟩))
  rename Ch h w'=>hh
  obtain⟨K,ah⟩:=Hx2 (G.keep hh.2) ((Au.of (S:=(·=b)) a3).trans ((Au.of hh.2).mono (by omega) (λ_ _ q=>q)));have aK:=K.fz;have aF:=K.c1;have ac:w'.cell? ⟨w,0,none⟩=some (.int .i64 0):=by rw[hh.1 _ _ I];exact U
  have t1:w'.cell? ⟨w,1,none⟩=some (.int .i64 0):=by rw[hh.1 _ _ I];exact V
  have t2:w'.cell? ⟨w,2,none⟩=some (.int .i64 0):=by rw[hh.1 _ _ I];exact W
  have ad:∀o,w'.frozen? ⟨w,o,none⟩=false:=λo=>by rw[hh.2.frozen (p:=⟨w,o,none⟩) I];exact ak o
  have b0:=hh.2.size;have ai:Hid (Below h h w'):=hh.2;have g:w.heap.size≠b:=by omega
  obtain⟨a,c⟩:∃a,w'.setCell ⟨b,1,none⟩ (.int .i64 q)=a:=⟨_,rfl⟩;have a2:Hid (BU a b v q):=by rw[<-c];exact K.set q
  have N:Hid (Au (·=b) w.heap.size w a):=by rw[<-c];exact ah.set (Or.inl rfl) _
  have Z:a.cell? ⟨w,0,none⟩=some (.int .i64 0):=by rw[<-c,GE _ g];exact ac
  have a0:a.cell? ⟨w,1,none⟩=some (.int .i64 0):=by rw[<-c,GE _ g];exact t1
  have a1:a.cell? ⟨w,2,none⟩=some (.int .i64 0):=by rw[<-c,GE _ g];exact t2
  have A:∀o,a.frozen? ⟨w,o,none⟩=false:=λo=>by rw[<-c,HX];exact ad o
  have z:w<a.heap.size:=by rw[<-c];simp[World.setCell];omega
  have af:Hid (Below t t a):=by rw[<-c];exact(F.trans (ai.mono F.size)).setCell ap _
  clear hh u a7 a8 P Q R U V W ac t1 t2 ad;by_cases H:s<256
  ·have d1:decide ((s:Int)<256)=true:=by simp;omega
   have m:Hid (CM L bs p=some (((s:Int),0,0),q)):=by unfold Hid;rw[l.out,A4 H]
   obtain⟨av,Y,f0,f1,f2,i⟩:=P1 (.int .i64 s) (.int .i64 0) (.int .i64 0) Z a0 a1;obtain⟨M,C⟩:=Hx2 (BU.save a2 (Au.of (S:=λ_=>False) i) ab (λq=>q)) (N.trans (Au.of i));have ax:=A 0;have ay:=A 1;have aC:=A 2;clear i l H;go_wp2_with fail;clear c Y;refine A5 (v:= .agg #[s, .int .i64 0, .int .i64 0]) (by simp[results,results352,go_sem,f0,f1,f2]) rfl ?_;exact⟨C,Or.inl ⟨_,_,_,_,m,rfl,M⟩⟩
  ·have d1:decide ((s:Int)<256)=false:=by simp;omega
   have aV:=al.out;have y:IntKind.i64.wrap ((s:Int) -253)=(s:Int) -253:=by rw[H2];omega
   have ao:=Ny b v bs q 8 a a2 (Aj aj (af)) hl (by omega);have m:Hid (CM L bs p=match AS bs q 8 with
    |some d=>some ((0,d,(s:Int) -253),q+8)
    |none=>none):=by unfold Hid;rw[l.out,A3 H]
   clear l H;go_wp2_with fail;clear c;refine ao.mono ?_;rintro e B ⟨f,⟨n,E,rfl,aa⟩|⟨E,rfl⟩⟩
   ·have O:Hid (CM L bs p=some ((0,n,(s:Int) -253),q+8)):=by unfold Hid;rw[m.out,E]
    have aq:B.cell? ⟨w,0,none⟩=some (.int .i64 0):=by rw[f.cell (p:=⟨w,0,none⟩) z g];exact Z
    have ar:B.cell? ⟨w,1,none⟩=some (.int .i64 0):=by rw[f.cell (p:=⟨w,1,none⟩) z g];exact a0
    have au:B.cell? ⟨w,2,none⟩=some (.int .i64 0):=by rw[f.cell (p:=⟨w,2,none⟩) z g];exact a1
    have ax:B.frozen? ⟨w,0,none⟩=false:=by rw[f.frozen (p:=⟨w,0,none⟩) z g];exact A 0
    have ay:B.frozen? ⟨w,1,none⟩=false:=by rw[f.frozen (p:=⟨w,1,none⟩) z g];exact A 1
    have aC:B.frozen? ⟨w,2,none⟩=false:=by rw[f.frozen (p:=⟨w,2,none⟩) z g];exact A 2
    obtain⟨av,Y,f0,f1,f2,i⟩:=P1 (.int .i64 0) (.int .i64 n) (.int .i64 ((s:Int) -253)) aq ar au;obtain⟨M,C⟩:=Hx2 (BU.save aa (Au.of (S:=λ_=>False) i) ab (λq=>q)) ((N.trans (f.mono (by omega) (λ_ _ q=>q))).trans (Au.of i));clear f E aa i m Z a0 a1;go_wp2_with fail;clear Y;refine A5 (v:= .agg #[.int .i64 0, n, .int .i64 ((s:Int) -253)]) (by simp[results,results352,go_sem,f0,f1,f2]) rfl ?_;exact⟨C,Or.inl ⟨_,_,_,_,O,rfl,M⟩⟩
   ·have O:Hid (CM L bs p=none):=by unfold Hid;rw[m.out,E]
    have C:=A0 (N.trans (f.mono (by omega) (λ_ _ q=>q)));clear f E m;go_wp2_with fail;exact⟨rfl,C,Or.inr ⟨O,rfl⟩⟩
def AD(i:Nat):Nat:=(i-1)/2
theorem GF{i:Nat}(h:0<i):AD i<i:=by unfold AD;omega
def Am(A:List HT)(i:Nat):HT:=A[i]?.getD (.leaf 0 0)
theorem GG{A:List HT}{i:Nat}(h:i<A.length):Am A i=A[i]:=by unfold Am;rw[Bl h,D0]
def FE(A:List HT)(n:Nat):Prop:=∀i,0<i->i<n->Bv (Am A (AD i)) (Am A i)
def KL(A:List HT)(n j:Nat):Prop:=(∀i,0<i->i<n->i≠j->Bv (Am A (AD i)) (Am A i))/\(∀i,0<i->i<n->AD i=j->0<j->Bv (Am A (AD j)) (Am A i))
def KM(A:List HT)(n j:Nat):Prop:=(∀i,0<i->i<n->AD i≠j->Bv (Am A (AD i)) (Am A i))/\(∀i,0<i->i<n->AD i=j->0<j->Bv (Am A (AD j)) (Am A i))
def Et(A:List HT)(i j:Nat):List HT:=(A.set i (Am A j)).set j (Am A i)
theorem KN(A:List HT)(i j:Nat):(Et A i j).length=A.length:=by simp[Et]
theorem I8{A:List HT}{i j:Nat}(a:i<A.length)(b:j<A.length)(k:Nat):Am (Et A i j) k=if k=j then Am A i else if k=i then Am A j else Am A k:=by
 have e:∀(B:List HT) (x:Nat) (t:HT),x<B.length->Am (B.set x t) k=if k=x then t else Am B k:=by
  intro B x t c;unfold Am;by_cases h:k=x
  ·subst h;rw[A4 rfl,K1 c,D0]
  ·rw[A3 h,N6 (by omega)]
 unfold Et;rw[e _ _ _ (by simpa using b),e _ _ _ a]
theorem LW{A:List HT}{i j:Nat}(a:i<A.length)(b:j<A.length):(Et A i j).Perm A:=by
 have h:=List.set_set_perm (i:=i) (j:=j) a b;unfold Et;rw[GG a,GG b];exact h
theorem bD{A:List HT}{n j:Nat}(q:n<=A.length)(p:j<n)(f:0<j)(h:KL A n j)(hl:D9 (Am A j) (Am A (AD j))=true):KL (Et A (AD j) j) n (AD j):=by
 have hp:=GF f;have at':=I8 (A:=A) (i:=AD j) (j:=j) (by omega) (by omega);have g:=Nr hl;constructor
 ·intro i h0 a l;rw[at' i,at' (AD i)];by_cases e:i=j
  ·subst e;rw[A4 rfl,A3 (by omega),A4 rfl];exact g
  ·rw[A3 e,A3 l];by_cases b:AD i=j
   ·rw[A4 b];have:=h.2 i h0 a b f;exact this
   ·rw[A3 b];by_cases c:AD i=AD j
    ·rw[A4 c];have:=h.1 i h0 a e;rw[c] at this;exact KK g this
    ·rw[A3 c];exact h.1 i h0 a e
 ·intro i h0 a m d;rw[at' i,at' (AD (AD j))];have r:=GF d;rw[A3 (by omega),A3 (by omega)];have k:=h.1 (AD j) d (by omega) (by omega);by_cases e:i=j
  ·subst e;rw[A4 rfl];exact k
  ·have o:=GF h0;rw[A3 e,A3 (by omega)];have:=h.1 i h0 a e;rw[m] at this;exact KK k this
theorem TM{A:List HT}{n j:Nat}(h:KL A n j)(hl:j=0\/D9 (Am A j) (Am A (AD j))=false):FE A n:=by
 intro i h0 a;by_cases e:i=j
 ·subst e;rcases hl with hl|hl
  ·omega
  ·exact hl
 ·exact h.1 i h0 a e
theorem bE{A:List HT}{t:HT}(h:FE A A.length):KL (A++[t]) (A.length+1) A.length:=by
 have e:∀k,k<A.length->Am (A++[t]) k=Am A k:=λk hk=>by unfold Am;rw[HI hk]
 constructor
 ·intro i h0 a b;have:=GF h0;rw[e i (by omega),e (AD i) (by omega)];exact h i h0 (by omega)
 ·intro i h0 a hp _;have:=GF h0;omega
theorem P2{i j:Nat}(h:0<i)(hp:AD i=j):i=2*j+1\/i=2*j+2:=by unfold AD at hp;omega
theorem TN(j:Nat):AD (2*j+1)=j:=by unfold AD;omega
theorem bF(j:Nat):AD (2*j+2)=j:=by unfold AD;omega
theorem P3{A:List HT}{n j c:Nat}(p:n<=A.length)(o:j<n)(hc:c<n)(d:AD c=j)(g:0<c)(h:KM A n j)(m:∀i,0<i->i<n->AD i=j->Bv (Am A c) (Am A i))(hl:D9 (Am A c) (Am A j)=true):KM (Et A j c) n c:=by
 have l:=Nr hl;have r:=GF g;have at':=I8 (A:=A) (i:=j) (j:=c) (by omega) (by omega);constructor
 ·intro i h0 b q;rw[at' i,at' (AD i),A3 (by omega:AD i≠c)];by_cases e:i=c
  ·subst e;rw[A4 rfl,A4 d];exact l
  ·rw[A3 e];by_cases a:AD i=j
   ·rw[A4 a];have k:=GF h0;rw[A3 (by omega)];exact m i h0 b a
   ·rw[A3 a];by_cases f:i=j
    ·subst f;rw[A4 rfl];exact h.2 c g hc d h0
    ·rw[A3 f];exact h.1 i h0 b a
 ·intro i h0 b hp _;have k:=GF h0;rw[at' i,at' (AD c),d,A3 (by omega:¬j=c),A4 rfl,A3 (by omega),A3 (by omega)];have:=h.1 i h0 b (by omega);rw[hp] at this;exact this
theorem Nz{A:List HT}{n j:Nat}(h:KM A n j)(hl:∀i,0<i->i<n->AD i=j->Bv (Am A j) (Am A i)):FE A n:=by
 intro i h0 a;by_cases e:AD i=j
 ·rw[e];exact hl i h0 a e
 ·exact h.1 i h0 a e
theorem bG{A:List HT}{n:Nat}(h:FE A n):∀i,i<n->Bv (Am A 0) (Am A i):=by
 intro i;induction i using Nat.strongRecOn with
 |ind i b=>
  intro a;by_cases h0:i=0
  ·subst h0;exact LQ _
  ·have:=GF (by omega:0<i);exact KK (b (AD i) this (by omega)) (h i (by omega) a)
theorem bH{A:List HT}{n:Nat}(b:A.length=n+1)(h:FE A (n+1)):KM (Et A 0 n) n 0:=by
 have at':=I8 (A:=A) (i:=0) (j:=n) (by omega) (by omega);constructor
 ·intro i h0 c a;have:=GF h0;rw[at' i,at' (AD i),A3 (by omega:¬AD i=n),A3 a,A3 (by omega:¬i=n),A3 (by omega:¬i=0)];exact h i h0 (by omega)
 ·intro i _ _ _ h;omega
abbrev Ay(a:Nat):Value:= .pointer (some ⟨a,0,none⟩)
def Cu(w:World):Nat->HT->Prop
 |p, .leaf x n=>w.heap[p]?=some (.cells #[x, n, .pointer none, .pointer none] 316 (0,0))
 |p, .node l a=>∃pl b,w.heap[p]?=some (.cells #[.int .i64 (wt l+wt a), .int .i64 (min (nm l) (nm a):Nat),Ay pl,Ay b] 316 (0,0))/\Cu w pl l/\Cu w b a
theorem Ip{w:World}{p:Nat}{t:HT}(h:Cu w p t):w.cell? ⟨p,0,none⟩=some (.int .i64 (wt t))/\w.cell? ⟨p,1,none⟩=some (.int .i64 (nm t)):=by
 cases t with
 |leaf x n=>exact⟨by rw[IT w p 0 _ _ (0,0) h];rfl,by rw[IT w p 1 _ _ (0,0) h];rfl⟩
 |node l b=>
  obtain⟨pl,a,h,_,_⟩:=h;exact⟨by rw[IT w p 0 _ _ (0,0) h];rfl,by rw[IT w p 1 _ _ (0,0) h];rfl⟩
structure Kp(B:Nat)(w w':World):Prop where
 below:Below B w w'
 keep:∀(b:Nat) (cs:Array Value) (t:TypeId),w.heap[b]?=some (Obj.cells cs t (0,0))→t≠311→t≠313→w'.heap[b]?=w.heap[b]?
theorem Kp.refl(B:Nat)(w:World):Kp B w w:=⟨A2 _ _,λ_ _ _ _ _ _=>rfl⟩
theorem Kp.trans{B:Nat}{a b c:World}(h:Kp B a b)(k:Kp B b c):Kp B a c:=
 ⟨h.below.trans k.below,λg cs t d h1 h2=>by rw[k.keep g cs t (by rw[h.keep g cs t d h1 h2];exact d) h1 h2,h.keep g cs t d h1 h2]⟩
theorem F9{B:Nat}{w w':World}(h:Kp B w w'):∀{t:HT} {p:Nat},Cu w p t->Cu w' p t:=by
 intro t;induction t with
 |leaf x n=>intro p hr;exact(h.keep p _ _ hr (by decide) (by decide)).trans hr
 |node l e b c=>
  intro p hr;obtain⟨pl,d,a,hl,hr⟩:=hr;exact⟨pl,d,(h.keep p _ _ a (by decide) (by decide)).trans a,b hl,c hr⟩
theorem Kp.drewN{B:Nat}{w w':World}(h:Kp B w w')(n:Nat):Kp B w (w'.drewN n):=⟨h.below.trans ⟨rfl,rfl,rfl,A1 _,λ_ _=>rfl⟩,h.keep⟩
theorem Kp.alloc{B:Nat}{w w':World}(h:Kp B w w')(a:B<=w'.heap.size)(o:Obj):Kp B w (w'.alloc o):=
 ⟨h.below.alloc a o,λb cs t hb h1 h2=>by
   have e:=h.keep b cs t hb h1 h2;rw[<-e];have c:b<w'.heap.size:=by
    rcases BZ b w'.heap.size with q|q
    ·exact q
    ·rw[hb,B8 q] at e;cases e
   exact H0 _ _ _ c⟩
def EN(B:Nat)(w:World)(v:Value)(a:List Nat)(A:List HT):Prop:=w.ownsRow B 313 1 v A.length (a.map Ay)/\a.length=A.length/\∀i (h:i<A.length) (b:i<a.length),Cu w a[i] A[i]
def pD(B F:Nat)(w:World)(A:List HT):Prop:=∃v a,B<=F/\w.heap[F]?=some (.cells #[v] 311 (0,0))/\EN B w v a A
theorem NA{B:Nat}{w w':World}{v:Value}{a:List Nat}{A:List HT}(h:EN B w v a A)(hk:Kp B w w')(hb:∀g,v.ownBlock=some g->w'.heap[g]?=w.heap[g]?):EN B w' v a A:=by
 obtain⟨h1,h2,h3⟩:=h;refine⟨?_,h2,λi h b=>F9 hk (h3 i h b)⟩;obtain⟨hl,h⟩:=h1;refine⟨hl,?_⟩;rcases h with h|⟨g,cap,cur,rfl,c,hc,rest⟩
 ·exact Or.inl h
 ·exact Or.inr ⟨g,cap,cur,rfl,c,by rw[hb g rfl];exact hc,rest⟩
theorem TO{B:Nat}{w:World}{v:Value}{a:List Nat}{A:List HT}(h:EN B w v a A)(n:Nat):EN B (w.drewN n) v a A:=NA h ((Kp.refl B w).drewN n) λ_ _=>rfl
theorem bI{B F:Nat}{w:World}{A:List HT}(h:pD B F w A)(n:Nat):pD B F (w.drewN n) A:=by
 obtain⟨v,a,h1,h2,h3⟩:=h;exact⟨v,a,h1,h2,TO h3 n⟩
theorem NC{B:Nat}{w:World}{v:Value}{a:List Nat}{A:List HT}(h:EN B w v a A)(hp:0<A.length):
 ∃g cap,v= .slice (some ⟨g,0,none⟩) A.length cap/\A.length<=cap/\B<=g/\∀i (c:i<A.length),∃f:i<a.length,w.cell? ⟨g,i,none⟩=some (Ay a[i])/\w.frozen? ⟨g,i,none⟩=false/\Cu w a[i] A[i]:=by
 obtain⟨h1,h2,h3⟩:=h;have b:=h1;obtain⟨hl,h⟩:=h1;rcases h with⟨_,h0⟩|⟨g,cap,cur,rfl,d,hc,e,_⟩
 ·omega
 ·refine⟨g,cap,rfl,e,d,λi c=>⟨by omega,?_,b.frozenAt i,h3 i c (by omega)⟩⟩;rw[b.cellAt i (by omega)];simp[Bl (show i<a.length by omega)]
theorem ND(v:Value)(n:Nat)(w:World)(a:Option Addr)(cap:Nat)(b:v= .slice a n cap):
 Calls prog 237 #[v] w λe w'=>e= .returned (.int .i64 n)/\w=w':=by
 subst b;go_enter func237,ntmps237;go_wp2
 go_ret;exact⟨rfl,rfl⟩
theorem bJ(B:Nat)(v:Value)(f:List Nat)(A:List HT)(i j:Nat)(w:World)(h:EN B w v f A)(l:i<A.length)(o:j<A.length)(hl:A.length<=1000000):
 Calls prog 424 #[v, i, j] w λe w'=>e= .returned (.bool (D9 (Am A i) (Am A j)))/\∃n,w'=w.drewN n:=by
 obtain⟨g,cap,rfl,hc,_,d⟩:=NC h (by omega);obtain⟨s,u,_,q⟩:=d i l;obtain⟨t,z,_,r⟩:=d j o;obtain⟨I,E⟩:=Ip q;obtain⟨J,F⟩:=Ip r;rw[GG l,GG o];have b:Hid (D9 A[i] A[j]=decide (wt A[i]<wt A[j]\/(wt A[i]=wt A[j]/\nm A[i]<nm A[j]))):=rfl;have C:(i:Int)<(A.length:Int):=by omega
 have g1:(j:Int)<(A.length:Int):=by omega
 have g2:(0:Int)<=(i:Int):=by omega
 have D:(0:Int)<=(j:Int):=by omega
 clear d h q r;generalize D9 A[i] A[j]=p at*;generalize wt A[i]=x at*;generalize wt A[j]=y at*;generalize nm A[i]=m at*;generalize nm A[j]=k at*;generalize f[i]=G at*;generalize f[j]=H at*;clear s t;by_cases a:x=y
 ·have d1:(x !=y)=false:=by simp[a]
  have hr:p=decide ((m:Int)<(k:Int)):=by rw[b.out];simp[a]
  have c:=A0 hr;clear hr a b;go_enter func424,ntmps424;go_wp2_with fail;go_quiet (fail)
  go_wp2_with fail;go_quiet (fail)
  go_wp2_with fail;go_ret;exact⟨by rw[c.out];first|rfl|simp,_,J2 _ _ _⟩
 ·have d1:(x !=y)=true:=by simp[a]
  have hr:p=decide (x<y):=by rw[b.out];simp[a]
  have c:=A0 hr;clear hr a b;go_enter func424,ntmps424;go_wp2_with fail;go_quiet (fail)
  go_wp2_with fail;go_quiet (fail)
  go_wp2_with fail;go_ret;exact⟨by rw[c.out];first|rfl|simp,_,J2 _ _ _⟩
theorem bQ(F:Nat)(w:World)(v:Value)(h:w.cell? ⟨F,0,none⟩=some v):(loadVar 311 ⟨F,0,none⟩).run prog w= .ok v w:=by
 have ha:(isAgg 311).run prog w= .ok false w:=by kernel_rfl
 simp[loadVar,Q2,ha,go_sem,h]
theorem P4(F:Nat)(w:World)(v:Value)(h:w.cell? ⟨F,0,none⟩=some v)(b:String)(f:FuncId)
 (hm:(prog.info? 309).map (λi=>(i.methods.find? (·.name==b)).map λm=>(m.path.size,m.func))=some (some (0,some (f,false)))):
 (Go.method 575 309 (.pointer (some ⟨F,0,none⟩)) b).run prog w= .ok (f,v) w:=by
 cases a:prog.info? 309 with
 |none=>simp[a] at hm
 |some c=>
  rw[a] at hm;simp only[Q1,Hs] at hm;cases hf:c.methods.find? (·.name==b) with
  |none=>rw[hf] at hm;cases hm
  |some m=>
   rw[hf] at hm;simp only[Q1,Hs,Prod.mk.injEq] at hm;obtain⟨hp,j⟩:=hm;have k:m.path.toList=[]:=FA.1 (by rw[Hy];exact hp);have l:m.path.isEmpty=true:=by rw[Array.isEmpty_iff];exact Array.size_eq_zero_iff.1 hp
   have hl:=bQ F w v h;have d:(typeInfo 309).run prog w= .ok c w:=by simp[typeInfo,a]
   have e:(underlying 309).run prog w= .ok (.pointer 311) w:=J3 underlying309 w;have g:∀n:String,(Builtin.ssaWrapNilChk_ #[309] 309 #[.pointer (some ⟨F,0,none⟩),strVal "",strVal n]).run prog w= .ok (.pointer (some ⟨F,0,none⟩)) w:=λn=>rfl;rw[method];simp only[Q2,d,Result.andThen_ok,hf,k,j,follow,Sem.run_pure,receiverAt,e,l,Place.get,if_true,g,asAddr,hl]
theorem TP(F:Nat)(w:World)(v:Value)(h:w.cell? ⟨F,0,none⟩=some v):(Go.method 575 309 (.pointer (some ⟨F,0,none⟩)) "Len").run prog w= .ok (237,v) w:=
 P4 F w v h "Len" 237 (by kernel_rfl)
theorem LX(F:Nat)(w:World)(v:Value)(h:w.cell? ⟨F,0,none⟩=some v):(Go.method 575 309 (.pointer (some ⟨F,0,none⟩)) "Less").run prog w= .ok (424,v) w:=
 P4 F w v h "Less" 424 (by kernel_rfl)
theorem LY(F:Nat)(w:World)(v:Value)(h:w.cell? ⟨F,0,none⟩=some v):(Go.method 575 309 (.pointer (some ⟨F,0,none⟩)) "Swap").run prog w= .ok (427,v) w:=
 P4 F w v h "Swap" 427 (by kernel_rfl)
theorem bS(a:Addr)(w:World):(Go.method 575 309 (.pointer (some a)) "Push").run prog w= .ok (426, .pointer (some a)) w:=by kernel_rfl
theorem bU(a:Addr)(w:World):(Go.method 575 309 (.pointer (some a)) "Pop").run prog w= .ok (425, .pointer (some a)) w:=by kernel_rfl
theorem bW{B g:Nat}{w w':World}{cur:Array Value}(a:w.heap[g]?=some (.cells cur 313 (0,0)))(hb:Below B w w')(h:∀b,b≠g->b<w.heap.size->w'.heap[b]?=w.heap[b]?):Kp B w w':=
 ⟨hb,λb cs t hc _ h2=>by
  by_cases e:b=g
  ·subst e;rw[a] at hc;injection hc with hc;injection hc with _ hc _;exact absurd hc.symm h2
  ·refine h b e ?_;rcases BZ b w.heap.size with q|q
   ·exact q
   ·rw[B8 q] at hc;cases hc⟩
theorem bY(B:Nat)(v:Value)(a:List Nat)(A:List HT)(i j:Nat)(w:World)(h:EN B w v a A)(n:i<A.length)(o:j<A.length)(hl:A.length<=1000000):
 Calls prog 427 #[v, i, j] w λe w'=>e= .returned (.tuple #[])/\(∃s,EN B w' v s (Et A i j))/\Kp B w w'/\w'=w.heap.size/\∀b,v.ownBlock≠some b->w'.heap[b]?=w.heap[b]?:=by
 obtain⟨g,cap,rfl,hc,z,d⟩:=NC h (by omega);obtain⟨T,F,O,t⟩:=d i n;obtain⟨U,G,P,u⟩:=d j o;obtain⟨l,L,r⟩:=h;have R:(i:Int)<(A.length:Int):=by omega
 have g1:(j:Int)<(A.length:Int):=by omega
 have g2:(0:Int)<=(i:Int):=by omega
 have S:(0:Int)<=(j:Int):=by omega
 have y:Hid (∀w',w'=((w.setCell ⟨g,i,none⟩ (Ay a[j])).setCell ⟨g,j,none⟩ (Ay a[i])).drew->(∃s,EN B w' (.slice (some ⟨g,0,none⟩) A.length cap) s (Et A i j))/\Kp B w w'/\w'=w.heap.size/\∀b,(Value.slice (some ⟨g,0,none⟩) A.length cap).ownBlock≠some b->w'.heap[b]?=w.heap[b]?):=by
  unfold Hid;rintro w' rfl;have D:∀b,b≠g->(((w.setCell ⟨g,i,none⟩ (Ay a[j])).setCell ⟨g,j,none⟩ (Ay a[i])).drew).heap[b]?=w.heap[b]?:=λb hb=>by
   show((w.setCell ⟨g,i,none⟩ (Ay a[j])).setCell ⟨g,j,none⟩ (Ay a[i])).heap[b]?=_;rw[HG _ _ _ _ hb,HG _ _ _ _ hb]
  have H:Below B w ((w.setCell ⟨g,i,none⟩ (Ay a[j])).setCell ⟨g,j,none⟩ (Ay a[i])).drew:=((A2 B w).setCell (p:=⟨g,i,none⟩) z _|>.setCell (p:=⟨g,j,none⟩) z _).drew;obtain⟨cur,J⟩:∃cur,w.heap[g]?=some (.cells cur 313 (0,0)):=by
   obtain⟨_,h⟩:=l;rcases h with⟨h,_⟩|⟨Q,N,cur,c,_,I,_⟩
   ·cases h
   ·injection c with c _ _;injection c with c;injection c with c;subst c;exact⟨cur,I⟩
  have f:=bW J H (λb hb _=>D b hb);refine⟨⟨(a.set i a[j]).set j a[i],?_,?_,?_⟩,f,by simp,λb hb=>D b (λe=>hb (by rw[e];rfl))⟩
  ·have h1:=((l.stored i (Ay a[j])).1.stored j (Ay a[i])).1;rw[<-I3,<-I3] at h1;rw[KN];exact h1
  ·simp[KN,L]
  ·intro k hk V;have C:k<A.length:=by rwa [KN] at hk
   have E:=I8 n o k;rw[GG hk] at E;rw[E,HC];by_cases e:j=k
   ·subst e;rw[A4 rfl,A4 rfl,GG n];exact F9 f t
   ·rw[A3 e,A3 (Ne.symm e),HC];by_cases m:i=k
    ·subst m;rw[A4 rfl,A4 rfl,GG o];exact F9 f u
    ·rw[A3 m,A3 (Ne.symm m),GG C];exact F9 f (r k C (by omega))
 by_cases K:i=j
 ·subst K;have c2:(w.setCell ⟨g,i,none⟩ (Ay a[i])).drew.cell? ⟨g,i,none⟩=some (Ay a[i]):=Fw F;clear l r d t u;generalize a[i]=M at*;go_enter func427,ntmps427;go_wp2_with fail
  go_region
  all_goals
   go_wp2_with fail
   go_end0
   exact⟨rfl,y _ rfl⟩
 ·obtain⟨Y,W⟩:=cell?_setCell_some (w:=w.drew) (p:=⟨g,i,none⟩) (x:=Ay a[j]) (q:=⟨g,j,none⟩) (v:=Ay a[j]) G;clear l r d t u;generalize a[i]=M at*;generalize a[j]=X at*;go_enter func427,ntmps427;go_wp2_with fail
  go_region
  all_goals
   go_wp2_with fail
   go_end0
   exact⟨rfl,y _ rfl⟩
abbrev NE(F:Nat):Value:= .iface 309 (.pointer (some ⟨F,0,none⟩))
theorem Eu{F:Nat}{w:World}{v:Value}(h:w.heap[F]?=some (.cells #[v] 311 (0,0))):w.cell? ⟨F,0,none⟩=some v:=by
 rw[IT w F 0 _ _ (0,0) h];rfl
theorem NF{B F:Nat}{w:World}{v x:Value}{b:List Nat}{A:List HT}(h:EN B w v b A)(a:w.heap[F]?=some (.cells #[x] 311 (0,0))):v.ownBlock≠some F:=by
 intro e;obtain⟨⟨_,h⟩,_⟩:=h;rcases h with⟨rfl,_⟩|⟨g,cap,cur,rfl,_,hc,_⟩
 ·cases e
 ·injection e with e;subst e;rw[a] at hc;injection hc with hc;injection hc with _ hc _;cases hc
theorem LZ{B F:Nat}{w:World}{A:List HT}{v:Value}{b:List Nat}(c:B<=F)(a:w.heap[F]?=some (.cells #[v] 311 (0,0)))(hr:EN B w v b A)(i j:Nat)(hi:i<A.length)(hj:j<A.length)(hl:A.length<=1000000):
 Calls prog 427 #[v, i, j] w λe w'=>e= .returned (.tuple #[])/\pD B F w' (Et A i j)/\Kp B w w':=
 (bY B v b A i j w hr hi hj hl).mono λe w' ⟨d,⟨h,g⟩,hk,_,f⟩=>⟨d,⟨v,h,c,by rw[f F (NF hr a)];exact a,g⟩,hk⟩
theorem L6{B F:Nat}{w:World}{A:List HT}{v:Value}{a:List Nat}(b:B<=F)(c:w.heap[F]?=some (.cells #[v] 311 (0,0)))(hr:EN B w v a A)(i j:Nat)(hi:i<A.length)(hj:j<A.length)(hl:A.length<=1000000):
 Calls prog 424 #[v, i, j] w λe w'=>e= .returned (.bool (D9 (Am A i) (Am A j)))/\pD B F w' A/\Kp B w w':=
 (bJ B v a A i j w hr hi hj hl).mono λe w' ⟨d,n,f⟩=>by
  subst f;exact⟨d,⟨v,a,b,c,TO hr n⟩,(Kp.refl B w).drewN n⟩
theorem bZ(B F:Nat)(A:List HT)(j:Nat)(w:World)(h:pD B F w A)(P:j<A.length)(hl:A.length<=1000000)(G:KL A A.length j):
 Calls prog 291 #[NE F, j] w λe w'=>e= .returned (.tuple #[])/\∃f,pD B F w' f/\f.Perm A/\FE f f.length/\Kp B w w':=by
 obtain⟨H,t⟩:=Hx2 h G;clear h G;go_enter func291,ntmps291;go_wp2_with fail;go_loopw [1] (λi wr=>∃(k:Nat) (a:List HT),i= .int .i64 k/\k<A.length/\pD B F wr a/\a.Perm A/\KL a A.length k/\Kp B w wr) (λi _=>(intOf i).toNat)
 case atStart=>exact⟨j,A,rfl,P,H,List.Perm.refl _,t,Kp.refl _ _⟩
 case round=>
  obtain⟨k,a,rfl,hk,N,hp,M,I⟩:=hrel;have U:=hp.length_eq;obtain⟨v,R,y,r,hr⟩:=N;obtain⟨b,q,u,n,p,l⟩:=Hx6 hp M I r hr y;have C:=Eu r;have m1:=LX F wr v C;clear hp M I r hr H t y;by_cases h0:k=0
  ·subst h0;have d1:(IntKind.i64.wrap ((0:Int) -1)).tdiv 2=0:=by decide
   go_wp2_with fail
   go_end0
   exact⟨rfl,a,⟨v,R,l,n,p⟩,b,by rw[b.out.length_eq];exact TM q (Or.inl rfl),u⟩
  ·obtain⟨m,rfl⟩:∃m,k=m+1:=⟨k-1,by omega⟩;have d:AD (m+1)=m/2:=by unfold AD;rw[S0]
   have c:=L6 l n p (m+1) (m/2) (by omega) (by omega) (by omega);rw[<-d] at c;rw[show(((m+1:Nat)):Int)=(m:Int)+1 by omega] at c;rw[d,show((m/2:Nat):Int)=(m:Int)/2 by omega,<-d] at c;have V:((m:Int)/2==(m:Int)+1)=false:=by simp;omega
   go_wp2_with fail;refine c.mono ?_;rintro e T ⟨rfl,E,J⟩;have x:=A0 (u.trans J);clear c C m1 n p l J;cases g:D9 (Am a (m+1)) (Am a (AD (m+1))) with
   |false=>
    have o:=A0 g;clear g;go_wp2_with fail
    go_end0
    exact⟨rfl,a,E,b,by rw[b.out.length_eq];exact TM q (Or.inr o),x⟩
   |true=>
    have o:=A0 g;obtain⟨S,W,z,s,K⟩:=E;have D:=Eu s;have m2:=LY F T S D;have L:=LZ z s K (m/2) (m+1) (by omega) (by omega) (by omega);rw[show(((m+1:Nat)):Int)=(m:Int)+1 by omega,show((m/2:Nat):Int)=(m:Int)/2 by omega,<-d] at L;clear g z s K D;go_wp2_with fail;refine L.mono ?_;rintro e X ⟨rfl,O,Q⟩;go_wp2_with fail;refine⟨⟨AD (m+1),Et a (AD (m+1)) (m+1),?_,by omega,O,?_,?_,x.trans Q⟩,by simp[intOf];omega⟩
    ·rw[d];congr 1
    ·exact(LW (by omega) (by omega)).trans b
    ·exact bD (by omega) hk (by omega) q o
end Go.Proofs.YtmajkjjjfodhlaaGreatDoor
