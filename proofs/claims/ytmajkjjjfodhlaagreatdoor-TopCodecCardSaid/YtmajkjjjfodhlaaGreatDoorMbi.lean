/- Part Mbi. No condition of its own. -/
import Derived.Test.YtmajkjjjfodhlaaGreatDoorMbh
namespace Go.Proofs.YtmajkjjjfodhlaaGreatDoor
open Go.RowKit Tryz Go.Shelf
set_option linter.all false
set_option maxRecDepth 100000
set_option maxHeartbeats 8000000
def Fu(n:Nat):UInt8:=if n<10 then UInt8.ofNat (48+n) else UInt8.ofNat (87+n)
def CT:Nat->Nat->List UInt8->List UInt8
 |0,_,a=>a
 |k+1,n,a=>CT k (n/16) (Fu (n%16)::a)
theorem ML:∀(k n:Nat) (a:List UInt8),(CT k n a).length=k+a.length
 |0,_,a=>by simp[CT]
 |k+1,n,a=>by rw[CT,ML k];simp;omega
def ET(n:Nat):ByteArray:=⟨(CT 8 n []).toArray⟩
def nh(n:Nat)(c d b:Value):Prop:=∃(k m:Nat) (a:List UInt8),b= .int .i64 k/\c= .int .u32 m/\d= .string ⟨a.toArray⟩/\k<=8/\m<4294967296/\a.length=k/\Hid (CT (8-k) m a=CT 8 n [])
theorem nk:∀d:Nat,d<16->(⟨#[48,49,50,51,52,53,54,55,56,57,97,98,99,100,101,102]⟩:ByteArray).extract d (d+1)=⟨#[Fu d]⟩:=by
 intro d hd;have:d=0\/d=1\/d=2\/d=3\/d=4\/d=5\/d=6\/d=7\/d=8\/d=9\/d=10\/d=11\/d=12\/d=13\/d=14\/d=15:=by omega
 rcases this with rfl|rfl|rfl|rfl|rfl|rfl|rfl|rfl|rfl|rfl|rfl|rfl|rfl|rfl|rfl|rfl<;>rfl
theorem nn(c:UInt8)(a:List UInt8):(⟨#[c]⟩:ByteArray)++⟨a.toArray⟩=⟨(c::a).toArray⟩:=by
 rw[ByteArray.mk_append_mk];simp
theorem no(n:Nat)(w:World)(l:n<4294967296):
 Calls prog 153 #[.int .u32 n] w λe w'=>e= .returned (.string (ET n))/\w=w':=by
 go_enter func153,ntmps153;go_wp2
 go_loop [0,3,4] (λr s b=>nh n r s b) (λ_ _ b=>8-(intOf b).toNat)
 case atStart=>exact⟨0,n,[],rfl,rfl,rfl,by omega,l,rfl,rfl⟩
 case round=>
  obtain⟨k,m,a,rfl,rfl,rfl,hk,hm,ha,f⟩:=hrel;have c:=A0 ha;clear ha;by_cases x:k<8
  ·have t:(k:Int)<8:=by omega
   obtain⟨d,hd,g⟩:∃d:Nat,(m:Int)%16=(d:Int)/\Hid (d=m%16):=⟨m%16,by omega,rfl⟩;obtain⟨q,y,h⟩:∃q:Nat,(m:Int)/16=(q:Int)/\Hid (q=m/16):=⟨m/16,by omega,rfl⟩;have i:Hid (CT (8-(k+1)) q (Fu d::a)=CT 8 n []):=by
    unfold Hid;rw[<-f.out,show 8-k=(8-(k+1))+1 by omega,CT,g.out,h.out]
   have j:d<16:=by have:=g.out;omega
   have o:q<4294967296:=by have:=h.out;omega
   have v:=nk d j;have z:¬9223372036854775807<(⟨#[Fu d]⟩:ByteArray).size+(⟨a.toArray⟩:ByteArray).size:=by
    have:=c.out;simp[ByteArray.size];omega
   have u:=nn (Fu d) a;go_wp2
   exact⟨⟨k+1,q,Fu d::a,by go_num,rfl,rfl,by omega,o,by have:=c.out;simp;omega,i⟩,by simp[intOf];omega⟩
  ·obtain rfl:k=8:=by omega
   have p:Hid (ET n=⟨a.toArray⟩):=by unfold Hid ET;rw[<-f.out];rfl
   go_wp2
   go_ret;exact⟨by rw[p.out];rfl,rfl⟩
theorem np(w:World):Calls prog 228 #[.int .u64 5] w λe w'=>e= .returned (.string ⟨#[53]⟩)/\w'=w:=by
 go_enter func228,ntmps228;go_wp2_with fail;go_loopw [0,3] (λa b wr=>a= .int .u64 5/\b= .string ⟨#[]⟩/\wr=w) (λ_ _ _=>0)
 case atStart=>exact⟨rfl,rfl,rfl⟩
 case round=>
  obtain⟨rfl,rfl,rfl⟩:=hrel;have d:(⟨#[48,49,50,51,52,53,54,55,56,57]⟩:ByteArray).extract 5 6=⟨#[53]⟩:=rfl;have c:(⟨#[53]⟩:ByteArray)++⟨#[]⟩=⟨#[53]⟩:=rfl;go_wp2_with fail;refine A5 (v:= .string ⟨#[53]⟩) (by simp[results,results228,go_sem]) rfl ?_;exact⟨rfl,rfl⟩
theorem nq(w:World):Calls prog 152 #[.int .i64 5] w λe w'=>e= .returned (.string ⟨#[53]⟩)/\w'=w:=by
 have hd:=np w;go_enter func152,ntmps152;go_wp2_with fail;refine hd.mono ?_;rintro e a ⟨rfl,rfl⟩;clear hd;go_wp2_with fail;refine A5 (v:= .string ⟨#[53]⟩) (by simp[results,results152,go_sem]) rfl ?_;exact⟨rfl,rfl⟩
theorem nr(w:World):Calls prog 151 #[.string ⟨#[53]⟩] w λe w'=>e= .returned (.tuple #[.int .i64 5, .bool true])/\w'=w:=by
 have hd:=nq w;have a:ByteArray.size ⟨#[53]⟩=1:=rfl;have b:(⟨#[53]⟩:ByteArray)[0]'(by rw[a];omega)=53:=rfl;go_enter func151,ntmps151;go_wp2_with fail;go_loopw [4,5] (λx i wr=>∃k:Nat,k<=1/\i= .int .i64 (k:Int)/\x= .int .i64 (if k=0 then 0 else 5)/\wr=w) (λ_ i _=>1-(intOf i).toNat)
 case atStart=>exact⟨0,by omega,rfl,rfl,rfl⟩
 case round=>
  obtain⟨k,hk,rfl,rfl,rfl⟩:=hrel;rcases(show k=0\/k=1 by omega) with rfl|rfl
  ·go_wp2_with fail;exact⟨⟨1,by omega,rfl,by simp,trivial⟩,by simp[intOf]⟩
  ·go_wp2_with fail;refine hd.mono ?_;rintro e c ⟨rfl,rfl⟩;clear hd;go_wp2_with fail;refine A5 (v:= .tuple #[.int .i64 5, .bool true]) (by simp[results,results151,go_sem]) rfl ?_;exact⟨rfl,rfl⟩
theorem nu(w:World):
 Calls prog 67 #[.string ⟨#[114,53]⟩] w λe w'=>e= .returned (.tuple #[.string (strOfNums (Ft 5 256)), .bool true])/\Below w w w':=by
 obtain⟨i0,D,F,G,H⟩:=BW Md;have o:=λK=>nr K;have g:ByteArray.size ⟨#[114,53]⟩=2:=rfl;have B:(⟨#[114,53]⟩:ByteArray)[0]'(by rw[g];omega)=114:=rfl;have A:(⟨#[114,53]⟩:ByteArray).extract 1 2=⟨#[53]⟩:=rfl;have q:(0:Int)<=5:=by omega
 have r:(5:Int)<2147483648:=by omega
 go_enter func67,ntmps67;go_wp2_with fail;refine(o _).mono ?_;rintro e V ⟨rfl,rfl⟩;clear o g B A;obtain⟨Hown2,j⟩:=Hx2 (MA (base:=w.heap.size) (Aa.new w [] 5) (A1 _) (by simp[maxLen])) ((A2 w.heap.size w).alloc (A1 _) (.cells #[] 5));go_wp2_with fail;go_loopw [6,4,8] (λI J i wr=>∃k:Nat,k<=256/\i= .int .i64 (k:Int)/\I= .int .i64 (EG 5 k)/\wr.ownsRow w.heap.size 5 1 J k ((Ft 5 k).map (Value.int .u8))/\Below w w wr) (λ_ _ i _=>256-(intOf i).toNat)
 case atStart=>exact⟨0,by omega,rfl,rfl,Hown2,j⟩
 case round=>
  clear Hown2 j;obtain⟨k,hk,rfl,rfl,h,m⟩:=hrel;obtain⟨a0,c0,rfl,_⟩:=Aw h;obtain⟨f,d⟩:=Hx2 h m;clear h m;by_cases N:k<256
  ·have g:(k:Int)<256:=by omega
   obtain⟨X,Y⟩:=Pb q r k;obtain⟨L,Z⟩:=Pb q r (k+1);have u:=A0 (Yf 5 k);have y:Hid (EG 5 (k+1)=(EG 5 k*1103515245+12345)%2147483648):=rfl;generalize s:EG 5 (k+1)=a at*;have z:=A0 s;clear s;generalize EG 5 k=c at*;have O:IntKind.i64.wrap (1103515245*c)=c*1103515245:=by rw[Int.mul_comm];exact C0 _ (by omega)
   have P:IntKind.i64.wrap (c*1103515245+12345)=c*1103515245+12345:=C0 _ (by omega);have Q:Int.tmod (c*1103515245+12345) 2147483648=a:=by rw[y.out];exact T2 (by omega)
   have R:Int.tdiv a 65536=a/65536:=Int.tdiv_eq_ediv_of_nonneg L;have S:Int.tmod (a/65536) 256=a/65536%256:=T2 (by omega);have T:IntKind.u8.wrap (a/65536%256)=a/65536%256:=IntWalk.u8_in _ (by omega);have E:=d.size;go_wp2_with (first
    |(at_builtin;refine Ho _ rfl _ _ 155 rfl w.heap.size 5 i0 (.int .u8 0) 1 1 underlying155 D F G H rfl (by decide) (.slice a0 k c0) _ _ rfl (f.alloc _) ⟨wr,0,none⟩ 1 1 [.int .u8 (a/65536%256)] rfl rfl (Hx _ _ _) (by simp[Value.oneCell']) (by simp[maxLen];omega) (by omega) (by simp;omega) ?_
      intro U W p n _;have l:=(d.alloc E _).grown n (by simp;omega) (λb C=>Ah f b C);obtain⟨x,t⟩:=Hx2 p l;clear p n l)
    |fail)
   exact⟨⟨k+1,by omega,by go_num,by rw[z.out],by rw[u.out,D1];exact x,t⟩,by simp[intOf];omega⟩
  ·obtain rfl:k=256:=by omega
   have M:=JR (xs:=Ft 5 256) (Cr f).1;go_wp2_with fail;refine A5 (v:= .tuple #[.string (strOfNums (Ft 5 256)), .bool true]) (by simp[results,results67,go_sem]) rfl ?_;exact⟨rfl,d⟩
theorem nv(w:World):
 Calls prog 67 #[.string ⟨#[97]⟩] w λe w'=>e= .returned (.tuple #[.string (strOfNums (List.replicate 256 97)), .bool true])/\Below w w w':=by
 obtain⟨i0,s,u,x,y⟩:=BW Md;have q:ByteArray.size ⟨#[97]⟩=1:=rfl;have B:(⟨#[97]⟩:ByteArray)[0]'(by rw[q];omega)=97:=rfl;obtain⟨Hown2,f⟩:=Hx2 (MA (base:=w.heap.size) (Aa.new w [] 5) (A1 _) (by simp[maxLen])) ((A2 w.heap.size w).alloc (A1 _) (.cells #[] 5));go_enter func67,ntmps67;go_wp2_with fail;go_loopw [4,5] (λz i wr=>∃k:Nat,k<=256/\i= .int .i64 (k:Int)/\wr.ownsRow w.heap.size 5 1 z k ((List.replicate k 97).map (Value.int .u8))/\Below w w wr) (λ_ i _=>256-(intOf i).toNat)
 case atStart=>exact⟨0,by omega,rfl,Hown2,f⟩
 case round=>
  clear Hown2 f;obtain⟨k,hk,rfl,d,j⟩:=hrel;obtain⟨a0,c0,rfl,_⟩:=Aw d;obtain⟨a,c⟩:=Hx2 d j;clear d j;by_cases D:k<256
  ·have g1:(k:Int)<256:=by omega
   have t:=c.size;go_wp2_with (first
    |(at_builtin;refine Ho _ rfl _ _ 155 rfl w.heap.size 5 i0 (.int .u8 0) 1 1 underlying155 s u x y rfl (by decide) (.slice a0 k c0) _ _ rfl (a.alloc _) ⟨wr,0,none⟩ 1 1 [.int .u8 97] rfl rfl (Hx _ _ _) (by simp[Value.oneCell']) (by simp[maxLen];omega) (by omega) (by simp;omega) ?_
      intro E F m l _;have h:=(c.alloc t _).grown l (by simp;omega) (λb r=>Ah a b r);obtain⟨o,n⟩:=Hx2 m h;clear m l h)
    |fail)
   exact⟨⟨k+1,by omega,by go_num,by rw[List.replicate_succ',D1];exact o,n⟩,by simp[intOf];omega⟩
  ·obtain rfl:k=256:=by omega
   have C:=JR (xs:=List.replicate 256 97) (Cr a).1;have A:=A0 a;clear a;generalize g:strOfNums (List.replicate 256 97)=T at*;have p:=A0 g;clear g;go_wp2_with fail;refine A5 (v:= .tuple #[.string T, .bool true]) (by simp[results,results67,go_sem]) rfl ?_;exact⟨by rw[p.out],c⟩
def Co(T:ByteArray):ByteArray:=⟨#[111,107,32]⟩++ET (Bg T)
theorem nw(T:ByteArray)(w:World)(g:T.size<=100000):
 Calls prog 68 #[.int .i64 3, .agg #[.int .i64 0, .string T, .int .i64 0]] w λe w'=>e= .returned (.string (Co T))/\Below w w w':=by
 have hs:=λa=>eG T a (by omega);have b:=λa=>no (Bg T) a (Qv T);go_enter func68,ntmps68;go_wp2_with fail;refine(hs _).mono ?_;rintro e f ⟨rfl,rfl⟩;clear hs;have h:(ET (Bg T)).size=8:=by show(CT 8 (Bg T) []).toArray.size=8;rw[D2,ML];rfl
 have c:Hid (Co T=⟨#[111,107,32]⟩++ET (Bg T)):=rfl;generalize ET (Bg T)=d at*;generalize Bg T=C at*;go_wp2_with fail;refine(b _).mono ?_;rintro e f ⟨rfl,rfl⟩;clear b;go_wp2_with fail;refine A5 (v:= .string (⟨#[111,107,32]⟩++d)) (by simp[results,results68,go_sem]) rfl ?_;exact⟨by rw[c.out],(A2 _ w).alloc (A1 _) _⟩
theorem ny(w:World):Calls prog 391 #[.int .i64 16] w λe w'=>e= .returned (.bool true)/\w'=w:=by
 go_enter func391,ntmps391;go_wp2_with fail;go_ret;exact⟨by simp;decide,rfl⟩
def BC(w:World):Prop:=w.cell? ⟨6,15,none⟩=some (.int .u8 4)
theorem nz(w:World)(a:BC w):Calls prog 401 #[.int .u64 16] w λe w'=>e= .returned (.int .i64 4)/\w'=w:=by
 have h:=a;unfold BC at h;clear a;have b:IntKind.u64.wrap (-16)=18446744073709551600:=by decide
 have c:bits BinOp.and IntKind.u64 16 18446744073709551600=16:=by decide
 have d:IntKind.u64.wrap (16*285870213051353865)=4573923408821661840:=by decide
 go_enter func401,ntmps401;go_wp2_with fail;go_ret;exact⟨rfl,rfl⟩
theorem nA(w:World)(b:BC w):Calls prog 392 #[.int .u64 16] w λe w'=>e= .returned (.int .i64 4)/\w'=w:=by
 have a:=nz w b;go_enter func392,ntmps392;go_wp2_with fail;refine a.mono ?_;rintro e c ⟨rfl,rfl⟩;clear a;go_wp2_with fail;go_ret;exact⟨rfl,rfl⟩
theorem Yg(a:List UInt8):∀k,CT k 0 a=List.replicate k 48++a
 |0=>rfl
 |k+1=>by
  rw[CT,show(0:Nat)/16=0 from rfl,Yg _ k,show Fu (0%16)=48 from rfl,List.replicate_succ'];simp
theorem R6:∀(d:Nat) (h:d<16),(⟨#[48,49,50,51,52,53,54,55,56,57,97,98,99,100,101,102,103,104,105,106,107,108,109,110,111,112,113,114,115,116,117,118,119,120,121,122]⟩:ByteArray)[d]'(by show d<36;omega)=Fu d:=by
 intro d h;rcases(show d=0\/d=1\/d=2\/d=3\/d=4\/d=5\/d=6\/d=7\/d=8\/d=9\/d=10\/d=11\/d=12\/d=13\/d=14\/d=15 by omega) with rfl|rfl|rfl|rfl|rfl|rfl|rfl|rfl|rfl|rfl|rfl|rfl|rfl|rfl|rfl|rfl<;>rfl
theorem nB(m:Nat)(h:m<18446744073709551616):bits .and .u64 (m:Int) 15=((m%16:Nat):Int):=by
 rw[show(15:Int)=((15:Nat):Int) from rfl,Go.u64_and_nat m 15 h (by omega),show(15:Nat)=2 ^ 4-1 from rfl,Nat.and_two_pow_sub_one_eq_mod]
def Pc(w:World)(b:Nat)(a:List UInt8):Prop:=∃cs,Ba w b 453 cs/\cs.length=65/\cs.drop (65-a.length)=a.map (λx=>Value.int .u8 (x.toNat:Int))
theorem Pc.step{w:World}{b:Nat}{a:List UInt8}(h:Pc w b a)(hl:a.length<65):(∃v,w.cell? ⟨b,65-a.length-1,none⟩=some v)/\w.frozen? ⟨b,65-a.length-1,none⟩=false/\∀x:UInt8,Pc (w.setCell ⟨b,65-a.length-1,none⟩ (.int .u8 (x.toNat:Int))) b (x::a):=by
 obtain⟨cs,h1,h2,h3⟩:=h;refine⟨⟨cs[65-a.length-1]'(by omega),by rw[F6 h1,Bl (by omega)]⟩,LL h1 _,λx=>⟨cs.set (65-a.length-1) (.int .u8 (x.toNat:Int)),LM h1 _ _,by rw[Di];exact h2,?_⟩⟩;rw[F4,<-h3,BV,show 65-(a.length+1)=65-a.length-1 by omega];rw[T3 (i:=65-a.length-1) (by rw[Di];omega),VB,show 65-a.length-1+1=65-a.length by omega,List.drop_set_of_lt (by omega)]
theorem nC:(prog.info? 453).map (λi=>(i.zero,i.size,i.bytes))=some (some (.agg (List.replicate 65 (Value.int .u8 0)).toArray),65,65):=by kernel_rfl
theorem nD(n:Nat)(X:n<4294967296)(w:World)(s:BC w):
 Calls prog 368 #[.slice none 0 0, .int .u64 n, .int .i64 16, .bool false, .bool false] w λe w'=>∃(k:Nat) (A:List UInt8),e= .returned (.tuple #[.slice none 0 0, .string ⟨A.toArray⟩])/\CT 8 n []=List.replicate k 48++A/\k+A.length=8/\Below w w w':=by
 obtain⟨i0,J,a4,a5,a6⟩:=BW nC;have K:=λj=>ny j;have M:=λj (t:BC j)=>nA j t;have h6:6<w.heap.size:=by
  rcases BZ 6 w.heap.size with h|h
  ·exact h
  ·unfold BC at s;simp[World.cell?,B8 h] at s
 have O:=A0 s;clear s;go_enter func368,ntmps368;go_wp2_with fail;have F:Ba (w.alloc (.cells Tryz.zeroCells453 453)) w.heap.size 453 (List.replicate 65 (.int .u8 0)):=JI w (List.replicate 65 (.int .u8 0)) 453;have z:Below w w (w.alloc (.cells Tryz.zeroCells453 453)):=(A2 _ _).alloc (A1 _) _;generalize w.alloc (.cells Tryz.zeroCells453 453)=Q at*;obtain⟨B,q⟩:=Hx2 F z;have H:BC Q:=by have:=O.out;unfold BC at*;rw[z.cell (p:=⟨6,15,none⟩) h6];exact this
 clear F z;refine(K _).mono ?_;rintro e Y ⟨rfl,rfl⟩;clear K;have L:=M _ H;clear M;go_wp2_with fail;refine L.mono ?_;rintro e Y ⟨rfl,rfl⟩;clear L H;go_wp2_with fail;go_loopw [1,13] (λu i wr=>∃(m k:Nat) (a:List UInt8),u= .int .u64 (m:Int)/\i= .int .i64 ((64-a.length:Nat)+1:Int)/\k+a.length=8/\1<=k/\m<16 ^ k/\CT k m a=CT 8 n []/\Pc wr w.heap.size a/\Below w w wr) (λ_ i _=>(intOf i).toNat)
 case atStart=>exact⟨n,8,[],rfl,rfl,rfl,by omega,X,rfl,⟨_,B,by simp,by simp⟩,q⟩
 case round=>
  clear B q;generalize wr=N at*;obtain⟨m,k,a,rfl,rfl,hk,Z,hm,t,E,hb⟩:=hrel;obtain⟨D,q⟩:=Hx2 t hb;obtain⟨hc,hf,o⟩:=E.step (by omega);rw[show 65-a.length-1=64-a.length by omega] at hc hf o;obtain⟨c,hr⟩:∃c,64-a.length=c:=⟨_,rfl⟩;rw[hr] at hc hf o⊢;obtain⟨a7,hc⟩:=hc;have a2:c<65:=by omega
  have a1:m<4294967296:=B3 hm (by have:16 ^ k<=16 ^ 8:=Nat.pow_le_pow_right (by omega) (by omega);omega);clear t hb E;by_cases a0:16<=m
  ·have hd:=R6 (m%16) (P8 _ (by omega));have S:=nB m (by omega);have R:(16:Int)<=(m:Int):=by omega
   have C:=A0 (o (Fu (m%16)));have r:Hid (m/16<16 ^(k-1)/\CT (k-1) (m/16) (Fu (m%16)::a)=CT 8 n []/\1<=k-1):=by
    obtain⟨l,rfl⟩:∃l,k=l+1:=⟨k-1,by omega⟩;have h2:m/16<16 ^ l:=by rw[Nat.div_lt_iff_lt_mul (by omega)];rw[P9] at hm;exact hm
    refine⟨h2,D,?_⟩;rcases S1 l with rfl|h
    ·simp at h2;omega
    ·exact h
   clear o hd;obtain⟨d,U⟩:∃d,m%16=d:=⟨_,rfl⟩;have V:d<16:=by omega
   have hd:=R6 d V;rw[U] at S C r;generalize Fu d=x at*;go_wp2_with fail;exact⟨⟨m/16,k-1,x::a,congrArg _ (by omega),congrArg _ (by simp only[BV];omega),by simp only[BV];omega,r.out.2.2,r.out.1,r.out.2.1,C,q.setCell (p:=⟨w,c,none⟩) (A1 _) _⟩,by simp[intOf]⟩
  ·have hd:=R6 m (by omega);have R:decide ((16:Int)<=(m:Int))=false:=A6 (by omega);have hp:=o (Fu m);have I:CT 8 n []=List.replicate (k-1) 48++(Fu m::a):=by
    rw[<-D.out];obtain⟨l,rfl⟩:∃l,k=l+1:=⟨k-1,by omega⟩;rw[CT,Nat.div_eq_of_lt (by omega),S4 (by omega),Yg];rfl
   generalize Fu m=x at*;have a3:∀j:World,(Instr.sliceAt 453 (.pointer (some ⟨w,0,none⟩)) (some (.int .i64 c)) none none).run prog j= .ok (.slice (some ⟨w,c,none⟩) (65-c) (65-c)) j:=by
    intro j;simp[Instr.sliceAt,go_sem];rw[A4 (by omega),A3 (by omega)]
   have T:=JR (w:=N.setCell ⟨w,c,none⟩ (.int .u8 (x.toNat:Int))) (v:= .slice (some ⟨w,c,none⟩) (65-c) (65-c)) (xs:=(x::a).map λy=>(y.toNat:Int)) (by
    have W:((x::a).map λy=>(y.toNat:Int)).length=65-c:=by simp only[B4,BV];omega
    obtain⟨cs,h1,h2,h3⟩:=hp;rw[BV,show 65-(a.length+1)=c by omega] at h3;have:=Lv (f:=Value.int .u8) (w:=N.setCell ⟨w,c,none⟩ (.int .u8 (x.toNat:Int))) (b:=w.heap.size) (off:=c) (cap:=65-c) (xs:=(x::a).map λy=>(y.toNat:Int)) (by omega) (Ng h1) (λi J=>by
     rw[F6 h1,<-RX,h3,Hp,Bl (by simpa using J),Q1,HJ])
    rw[W] at this;exact this)
   have G:strOfNums ((x::a).map λy=>(y.toNat:Int))=⟨(x::a).toArray⟩:=by
    unfold strOfNums;rw[R0];congr 2;refine(HV (g:=id) λy _=>?_).trans (List.map_id _);show UInt8.ofNat ((y.toNat:Int)).toNat=y;simp
   rw[G] at T;have P:=A0 I;clear o hp I G;go_wp2_with fail;refine A5 (v:= .tuple #[.slice none 0 0, .string ⟨(x::a).toArray⟩]) (by simp[results,results368,go_sem]) rfl ?_;exact⟨k-1,x::a,rfl,P,by simp only[BV];omega,q.setCell (p:=⟨w,c,none⟩) (A1 _) _⟩
theorem nE(n:Nat)(d:n<4294967296)(w:World)(c:BC w):
 Calls prog 289 #[.int .u64 n, .int .i64 16] w λe w'=>∃(k:Nat) (a:List UInt8),e= .returned (.string ⟨a.toArray⟩)/\CT 8 n []=List.replicate k 48++a/\k+a.length=8/\Below w w w':=by
 have hb:=nD n d w c;have h2:Calls prog 343 #[.int .u64 n, .int .i64 16] w λe w'=>∃(k:Nat) (a:List UInt8),e= .returned (.string ⟨a.toArray⟩)/\CT 8 n []=List.replicate k 48++a/\k+a.length=8/\Below w w w':=by
  go_enter func343,ntmps343;go_wp2_with fail;refine hb.mono ?_;rintro e f ⟨k,a,rfl,h1,h2,h3⟩;have b:=A0 h1;clear hb h1;go_wp2_with fail;refine A5 (v:= .string ⟨a.toArray⟩) (by simp[results,results343,go_sem]) rfl ?_;exact⟨k,a,rfl,b,h2,h3⟩
 clear hb;go_enter func289,ntmps289;go_wp2_with fail;refine h2.mono ?_;rintro e f ⟨k,a,rfl,h1,h3,h4⟩;have b:=A0 h1;clear h2 h1;go_wp2_with fail;refine A5 (v:= .string ⟨a.toArray⟩) (by simp[results,results289,go_sem]) rfl ?_;exact⟨k,a,rfl,b,h3,h4⟩
theorem nF(k:Nat):Lib.repeatL [48] k=List.replicate k 48:=by
 induction k with
 |zero=>rfl
 |succ k a=>show[48]++Lib.repeatL [48] k=_;rw[a];rfl
theorem Fv{w w':World}(h:BC w)(hb:Below w w w'):BC w':=by
 have h6:6<w.heap.size:=by
  rcases BZ 6 w.heap.size with a|a
  ·exact a
  ·unfold BC at h;simp[World.cell?,B8 a] at h
 unfold BC at*;rw[hb.cell (p:=⟨6,15,none⟩) h6];exact h
theorem Yh(T:ByteArray)(w:World)(A:T.size<=100000)(l:BC w):
 Calls prog 227 #[.int .i64 3, .agg #[.int .i64 0, .string T, .int .i64 0]] w λe w'=>e= .returned (.string (Co T))/\Below w w w':=by
 have hs:=λc=>UT T c (by omega);have hc:=Qv T;have hf:=λc (b:BC c)=>nE (Bg T) hc c b;have d:Below w w (w.alloc (.cells #[.int .i64 0, .string T, .int .i64 0] 44)):=(A2 _ w).alloc (A1 _) _;have n:=Fv l d;have r:=(Aa.new w [.int .i64 0, .string T, .int .i64 0] 44).cell 1 rfl;obtain⟨g,j⟩:=Hx2 d n;have i:Hid (Co T=⟨#[111,107,32]⟩++ET (Bg T)):=rfl;clear d n l r;go_enter func227,ntmps227;go_wp2_with fail;refine(hs _).mono ?_;rintro e G ⟨rfl,rfl⟩;clear hs;obtain⟨C,m⟩:∃C,Bg T=C:=⟨_,rfl⟩;rw[m] at hc hf i⊢;clear m;have B:IntKind.u64.wrap (C:Int)=(C:Int):=IntWalk.u64_in _ (by omega);have q:=hf _ j;generalize w.alloc (.cells #[.int .i64 0, .string T, .int .i64 0] 44)=z at*;clear hf j;go_wp2_with fail;refine q.mono ?_;rintro e y ⟨k,a,rfl,b,hk,p⟩;have o:Co T=⟨#[111,107,32]⟩++⟨(List.replicate k (48:UInt8)).toArray⟩++⟨a.toArray⟩:=by
  rw[i.out];unfold ET;rw[b];rw[ByteArray.append_assoc];congr 1
 obtain⟨s,h⟩:=Hx2 o (g.trans (p.mono g.size));have f:=Tryz.strings_Repeat ⟨#[48]⟩ k y (by omega) (by rw[show(⟨#[48]⟩:ByteArray).size=1 from rfl];omega);rw[show(⟨#[48]⟩:ByteArray).data.toList=[48] from rfl,nF k] at f;have F:ByteArray.size ⟨a.toArray⟩=a.length:=rfl;have D:ByteArray.size ⟨(List.replicate k (48:UInt8)).toArray⟩=k:=by show(List.replicate k (48:UInt8)).toArray.size=k;simp
 have E:(8:Int) -(a.length:Int)=(k:Int):=by omega
 generalize (⟨(List.replicate k (48:UInt8)).toArray⟩:ByteArray)=t at*;generalize (⟨a.toArray⟩:ByteArray)=u at*;clear b o p q;go_wp2_with fail;refine f.mono ?_;rintro e H ⟨rfl,x⟩;clear f;go_wp2_with fail;refine A5 (v:= .string (⟨#[111,107,32]⟩++t++u)) (by simp[results,results227,go_sem]) rfl ?_;exact⟨by rw[s.out],h.trans (x.mono h.size)⟩
theorem MM(o:Int)(w:World)(h3:o≠3)(a:o≠8):
 Calls prog 227 #[o, .agg #[.int .i64 0, .string ⟨#[]⟩, .int .i64 0]] w λe w'=>e= .returned (.string ⟨#[111,107]⟩)/\Below w w w':=by
 have b:(o==3)=false:=beq_eq_false_iff_ne.2 h3;have c:(o==8)=false:=beq_eq_false_iff_ne.2 a;go_enter func227,ntmps227;go_wp2_with fail;refine A5 (v:= .string ⟨#[111,107]⟩) (by simp[results,results227,go_sem]) rfl ?_;exact⟨rfl,(A2 _ w).alloc (A1 _) _⟩
abbrev Yi(c b d f e:Value)(p:Pl)(a:Bool):List Value:=[c,b, p.disk.fuse,d, .bool p.disk.dead, p.mt, p.gen, p.area,f,e, .bool a]
theorem Aa.fz11{w:World}{b:Nat}{T:TypeId}{vs:List Value}(h:Aa w b vs T):w.frozen? ⟨b,0,none⟩=false/\w.frozen? ⟨b,1,none⟩=false/\w.frozen? ⟨b,2,none⟩=false/\w.frozen? ⟨b,3,none⟩=false/\w.frozen? ⟨b,4,none⟩=false/\w.frozen? ⟨b,5,none⟩=false/\w.frozen? ⟨b,6,none⟩=false/\w.frozen? ⟨b,7,none⟩=false/\w.frozen? ⟨b,8,none⟩=false/\w.frozen? ⟨b,9,none⟩=false/\w.frozen? ⟨b,10,none⟩=false:=⟨h.free 0,h.free 1,h.free 2,h.free 3,h.free 4,h.free 5,h.free 6,h.free 7,h.free 8,h.free 9,h.free 10⟩
theorem Aa.eleven{w:World}{b:Nat}{T:TypeId}{a c e f g i j k l m d:Value}(h:Aa w b [a,c,e,f,g,i,j,k,l,m,d] T):w.cell? ⟨b,0,none⟩=some a/\w.cell? ⟨b,1,none⟩=some c/\w.cell? ⟨b,2,none⟩=some e/\w.cell? ⟨b,3,none⟩=some f/\w.cell? ⟨b,4,none⟩=some g/\w.cell? ⟨b,5,none⟩=some i/\w.cell? ⟨b,6,none⟩=some j/\w.cell? ⟨b,7,none⟩=some k/\w.cell? ⟨b,8,none⟩=some l/\w.cell? ⟨b,9,none⟩=some m/\w.cell? ⟨b,10,none⟩=some d:=
 ⟨h.cell 0 rfl,h.cell 1 rfl,h.cell 2 rfl,h.cell 3 rfl,h.cell 4 rfl,h.cell 5 rfl,h.cell 6 rfl,h.cell 7 rfl,h.cell 8 rfl,h.cell 9 rfl,h.cell 10 rfl⟩
def AP(X:Nat->Prop)(w:World)(b:Nat)(p:Pl):Prop:=∃d c e g f,Aa w b (Yi d c e g f p true) 222/\∀a,Ac w a X->AH a d c e g f p
def Lm(w:World)(b:Nat):Prop:=Aa w b (Bz++[.bool false]) 222
theorem AP.below{X:Nat->Prop}{w w':World}{b:Nat}{p:Pl}(h:AP X w b p)(hb:Below w w w'):AP X w' b p:=by
 obtain⟨f,d,g,j,i,h1,h2⟩:=h;exact⟨f,d,g,j,i,h1.below hb,λa c=>h2 a ((Ai hb).mono (λ_ _ e=>e.elim)|>.trans c)⟩
theorem Yj{w:World}{b:Nat}{T:TypeId}{a1 a d e f:Option Addr}{g l m n p c1 c2 c3 c4 c5:Nat}{q r s t:Int}{y u:Bool}
 (h:Aa w b [.slice a1 g c1, .slice a l c2, q, .slice d m c3, .bool y, r, s, t, .slice e n c4, .slice f p c5, .bool u] T):DT w b:=by
 refine Lg h λo i j k c hc=>?_;obtain⟨h0,h1,h2,h3⟩:=hc;rcases o with _|_|_|_|_|_|_|_|_|_|_|o<;>simp at h0 h1 h2 h3
theorem AP.fit{X:Nat->Prop}{w:World}{b:Nat}{p:Pl}(h:AP X w b p):b<w.heap.size/\¬BP w b/\DT w b:=by
 obtain⟨n,m,o,r,q,h1,h2⟩:=h;obtain⟨s,t,u,v,x,g,i,j,k,l,a,c,d,e,f,rfl,rfl,rfl,rfl,rfl⟩:=(h2 w (AW _ _)).shape;exact⟨h1.lt,Cw h1 (by decide),Yj h1⟩
theorem Lm.fit{w:World}{b:Nat}(h:Lm w b):b<w.heap.size/\¬BP w b/\DT w b:=⟨Aa.lt h,Cw h (by decide),Yj h⟩
theorem Ln{w w':World}{R:Nat->Prop}(h:BC w)(c:Ac w w' R)(b:¬R 6):BC w':=by
 have h6:6<w.heap.size:=by
  rcases BZ 6 w.heap.size with a|a
  ·exact a
  ·have h2:w.cell? ⟨6,15,none⟩=some (.int .u8 4):=h;rw[show w.cell? ⟨6,15,none⟩=none by simp[World.cell?,B8 a]] at h2;cases h2
 exact(c.cell h6 b).trans h
theorem nG(w:World):Calls prog 65 #[] w λe w'=>e= .returned (.pointer (some ⟨w,0,none⟩))/\Lm w' w.heap.size/\w'=w.heap.size+1/\Below w w w':=by
 go_enter func65,ntmps65;go_wp2_with fail;refine A5 (v:= .pointer (some ⟨w,0,none⟩)) (by simp[results,results65,go_sem]) rfl ?_;exact⟨rfl,Aa.new w _ _,by simp,(A2 _ _).alloc (A1 _) _⟩
theorem Yk(a f:ByteArray)(n:Int)(w:World)(g:a.size=1)(hl:(⟨#[99,111,109,112,97,99,116,32]⟩:ByteArray)++a=f)
 (hp:∀b,Calls prog 226 #[.string f] b λe w'=>e= .returned (.tuple #[Cy ⟨9,0,0,0,n,⟨#[]⟩⟩, .bool true])/\Below b b w'):
 Calls prog 219 #[.string a] w λe w'=>e= .returned (.tuple #[n, .bool true])/\Below w w w':=by
 subst hl;have d:=hp w;clear hp;go_enter func219,ntmps219;go_wp2_with fail;refine d.mono ?_;rintro e h ⟨rfl,hb⟩;have c:=A0 hb;clear hb d;go_wp2_with fail;refine A5 (v:= .tuple #[n, .bool true]) (by simp[results,results219,go_sem]) rfl ?_;exact⟨rfl,c.trans (((A2 _ _).alloc (A1 _) _).mono c.size)⟩
abbrev EH:=ByteArray×Value
def Dp(c:World)(b:Nat)(L:List EH):Prop:=∃a d,c.heap[b]?=some (.map a d)/\a.toList.map (λe=>(e.key,e.val))=L.map λx=>(Value.string x.1,x.2)
def Gp(L:List EH)(s:ByteArray):Option Value:=(L.find? λx=>s==x.1).map (·.2)
theorem Yl(s:ByteArray):∀(a:List MapEntry) (L:List EH) (i:Nat),a.map (λe=>(e.key,e.val))=L.map (λx=>(Value.string x.1,x.2))->
 ∃c,Instr.findNow .string (.string s) a i=some c/\c.map (·.2)=Gp L s
 |[],L,i,h=>by
  have h0:L=[]:=by simpa using h.symm
  subst h0;exact⟨none,rfl,rfl⟩
 |e::a,[],i,h=>by simp at h
 |e::a,x::L,i,h=>by
  simp only[F4,List.cons.injEq,Prod.mk.injEq] at h;obtain⟨⟨h1,h2⟩,h3⟩:=h;obtain⟨c,hr,hm⟩:=Yl s a L (i+1) h3;cases b:s==x.1 with
  |true=>exact⟨some (i,e.val),by simp[Instr.findNow,Instr.sameNow,h1,b],by simp[Gp,b,h2]⟩
  |false=>exact⟨c,by simp[Instr.findNow,Instr.sameNow,h1,b,hr],by rw[hm];simp[Gp,b]⟩
theorem R8(c:World)(s:ByteArray)(b:List MapEntry)(L:List EH)(h:b.map (λe=>(e.key,e.val))=L.map (λx=>(Value.string x.1,x.2))):
 ∃a,(Instr.findKey 9 (.string s) b).run prog c= .ok a c/\a.map (·.2)=Gp L s:=by
 obtain⟨a,h1,h2⟩:=Yl s b L 0 h;exact⟨a,MapKept.run_findKey underlying9 h1,h2⟩
theorem R9(a:Bool)(n:Nat)(w:World)(s:ByteArray):(Instr.checkKey a (n+1) 9 (.string s)).run prog w= .ok () w:=by
 simp[Instr.checkKey,J3 underlying9]
theorem Sa{w:World}{c:Nat}{b:Array MapEntry}{a:Nat}(h:w.heap[c]?=some (.map b a)):(getObj c).run prog w= .ok (.map b a) w:=by simp[getObj,Sem.run,h]
theorem nH{w:World}{a:Nat}{c:Array MapEntry}{b:Nat}{o:Obj}(h:w.heap[a]?=some (.map c b)):(setObj a o).run prog w= .ok () (w.putObj a o):=by simp[setObj,Sem.run,h,World.putObj]
theorem Dp.lt{b:World}{a:Nat}{L:List EH}(h:Dp b a L):a<b.heap.size:=by
 obtain⟨f,e,d,_⟩:=h;rcases BZ a b.heap.size with c|c
 ·exact c
 ·rw[B8 c] at d;cases d
theorem Dp.below{b c:World}{a:Nat}{L:List EH}(h:Dp b a L)(hb:Below b b c):Dp c a L:=by
 have hl:=h.lt;obtain⟨e,d,f,hm⟩:=h;exact⟨e,d,(hb.block a hl).trans f,hm⟩
theorem Sb{t e:TypeId}(h:prog.underlying t=some (.map 9 e))(a:World)(b:Nat)(L:List EH)(s:ByteArray)(v:Value)(d:Dp a b L)(i:Gp L s=some v):
 (Instr.lookup t (.map (some b)) (.string s) true).run prog a= .ok (.tuple #[v, .bool true]) a:=by
 obtain⟨c,k,f,g⟩:=d;obtain⟨j,hr,hm⟩:=R8 a s c.toList L g;have hc:=R9 c.isEmpty 9999 a s;rw[i] at hm;cases j with
 |none=>cases hm
 |some y=>
  obtain rfl:y.2=v:=by simpa using hm
  simp[Instr.lookup,J3 h,Sa f,hc,hr]
theorem nI{t e:TypeId}(i:prog.underlying t=some (.map 9 e)){d:Value}(k:∀a,(zeroValue e).run prog a= .ok d a)(a:World)(b:Nat)(L:List EH)(s:ByteArray)(f:Dp a b L)(j:Gp L s=none):
 (Instr.lookup t (.map (some b)) (.string s) true).run prog a= .ok (.tuple #[d, .bool false]) a:=by
 obtain⟨c,m,g,h⟩:=f;obtain⟨l,hr,hm⟩:=R8 a s c.toList L h;have hc:=R9 c.isEmpty 9999 a s;rw[j] at hm;cases l with
 |some y=>cases hm
 |none=>simp[Instr.lookup,J3 i,Sa g,hc,hr,k]
theorem nJ{t e:TypeId}(k:prog.underlying t=some (.map 9 e))(a:World)(b:Nat)(L:List EH)(s:ByteArray)(v:Value)(f:Dp a b L)(j:Gp L s=none):
 ∃o,(Instr.mapUpdate t (.map (some b)) (.string s) v).run prog a= .ok () (a.putObj b o)/\Dp (a.putObj b o) b (L++[(s,v)]):=by
 have i:=f.lt;obtain⟨d,c,g,h⟩:=f;obtain⟨l,hr,hm⟩:=R8 a s d.toList L h;have hc:=R9 false 9999 a s;rw[j] at hm;obtain rfl:l=none:=by simpa using hm
 refine⟨.map (d.push {key:= .string s,val:=v,born:=c}) (c+1),?_,d.push {key:= .string s,val:=v,born:=c},c+1,?_,?_⟩
 ·simp[Instr.mapUpdate,J3 k,Sa g,nH g,hc,hr]
 ·simp[World.putObj,i]
 ·simp[h]
theorem DJ{ops:Array Oper}{rest:List Oper}{o:Oper}{a:Act}{w:World}{Q:Exit->Act->World->Prop}(i:o.guard=none)(t e:TypeId)(m k v:Operand)(l:o.op= .insert t m k v)(p:prog.underlying t=some (.map 9 e))(c:Nat)(L:List EH)(s:ByteArray)(u:Value)
 (hm:a.eval m= .map (some c))(hk:a.eval k= .string s)(q:a.eval v=u)(g:Dp w c L)(j:Gp L s=none)
 (h:∀d,Dp d c (L++[(s,u)])->Ac w d (λb=>b=c)->wpList prog ops Q rest (a.put o.dst undef) d):wpList prog ops Q (o::rest) a w:=by
 refine wpList_plain i λx f=>?_;obtain⟨r,n,h2⟩:=nJ p w c L s u g j;unfold Oper.wp;simp[execOp,l,hm,hk,q,n,Result.andThen];exact f _ _ (h _ h2 ((Gs (Hv w c r)).mono λk _ e=>by cases e;rfl))
end Go.Proofs.YtmajkjjjfodhlaaGreatDoor
