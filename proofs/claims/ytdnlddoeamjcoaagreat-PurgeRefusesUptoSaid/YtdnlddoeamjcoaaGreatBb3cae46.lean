/-
  The script.
-/
import Derived.Test.YtdnlddoeamjcoaaGreatB842129c
import Derived.Test.YtdnlddoeamjcoaaGreatB6632fb7
import Derived.Test.YtdnlddoeamjcoaaGreatBb3fd0a8
set_option linter.unusedSimpArgs false
set_option linter.unusedVariables false
set_option maxHeartbeats 10000000
set_option maxRecDepth 100000
namespace Go.Proofs.YtdnlddoeamjcoaaGreat
open Go Go.Sim
theorem z09:zg G zcc [.d (.int .i64 6),.d (.int .i64 1)] []=some (.d (.tup [zU ⟨1,[⟨0,65535,0⟩],[-1, -1, -1, -1, -1, -1]⟩,.int .i64 0]),[]):=by
 simp only[zU,zaw,zB,zac1,zacZ];exact zWd
theorem zSt(c d l k i e:Int)(q:zJ ⟨6,1,c,d,l,k,i,e⟩=true):zR ⟨6,1,c,d,l,k,i,e⟩=(⟨[⟨0,(zG c 0 65535).1⟩,⟨0,(zao c).1⟩,⟨0,(zao c).1⟩,⟨0,(zao c).1⟩,⟨0,(zao c).1⟩,⟨0,(zao c).1⟩],[⟨0,e,0,0⟩,⟨0,e,0,0⟩,⟨0,e,0,0⟩,⟨0,e,0,0⟩,⟨0,e,0,0⟩,⟨0,e,0,0⟩],⟨0,⟨d,[]⟩⟩,⟨1,[⟨0,65535,0⟩],[-1, -1, -1, -1, -1, -1]⟩,e,k,i⟩,0):=by
 have hd:zcr 6 1=(⟨1,[⟨0,65535,0⟩],[-1, -1, -1, -1, -1, -1]⟩,0):=by decide
 unfold zR;rw[zacX (by rw[q];decide)];simp only[hd];rfl
theorem z1u(c d l k i e:Int)(q:zJ ⟨6,1,c,d,l,k,i,e⟩=true):zg G zb7 [.d (zK ⟨6,1,c,d,l,k,i,e⟩)] []=some (.d (.tup [zi (zR ⟨6,1,c,d,l,k,i,e⟩).1,.int .i64 (zR ⟨6,1,c,d,l,k,i,e⟩).2]),[]):=by
 have hn:=z09;rw[zSt c d l k i e q];unfold zJ at q;simp only[zac7] at q;obtain⟨i1,i2,i3,i4,i5,i6,i7,i8⟩:=q;have h4:1<=d/\d<=24:=by simpa [inI] using i4
 have hz:=zcL d;rw[zacX zo,zacX zo] at hz;have hf:=zcC c;have hs0:=zaF c 0 65535;clear h4;generalize zao c=rf at *;obtain⟨rf,ef⟩:=rf;simp only at *;generalize zG c 0 65535=r0 at *;obtain⟨r0,e0⟩:=r0;simp only at *;simp only[zk,zK,zi,zX,zU,zaw,zbE,zae,zB,zac1,zacZ] at *;exact zWa
theorem z1a:zg G zcc [.d (.int .i64 6),.d (.int .i64 2)] []=some (.d (.tup [zU ⟨1,[⟨0,32767,0⟩,⟨32768,65535,1⟩],[-1, -1, -1, -1, -1, -1]⟩,.int .i64 0]),[]):=by
 simp only[zU,zaw,zB,zac1,zacZ];exact zWd
theorem zSu(c d l k i e:Int)(q:zJ ⟨6,2,c,d,l,k,i,e⟩=true):zR ⟨6,2,c,d,l,k,i,e⟩=(⟨[⟨0,(zG c 0 32767).1⟩,⟨0,(zG c 32768 65535).1⟩,⟨0,(zao c).1⟩,⟨0,(zao c).1⟩,⟨0,(zao c).1⟩,⟨0,(zao c).1⟩],[⟨0,e,0,0⟩,⟨0,e,0,0⟩,⟨0,e,0,0⟩,⟨0,e,0,0⟩,⟨0,e,0,0⟩,⟨0,e,0,0⟩],⟨0,⟨d,[]⟩⟩,⟨1,[⟨0,32767,0⟩,⟨32768,65535,1⟩],[-1, -1, -1, -1, -1, -1]⟩,e,k,i⟩,0):=by
 have hd:zcr 6 2=(⟨1,[⟨0,32767,0⟩,⟨32768,65535,1⟩],[-1, -1, -1, -1, -1, -1]⟩,0):=by decide
 unfold zR;rw[zacX (by rw[q];decide)];simp only[hd];rfl
theorem z1v(c d l k i e:Int)(q:zJ ⟨6,2,c,d,l,k,i,e⟩=true):zg G zb7 [.d (zK ⟨6,2,c,d,l,k,i,e⟩)] []=some (.d (.tup [zi (zR ⟨6,2,c,d,l,k,i,e⟩).1,.int .i64 (zR ⟨6,2,c,d,l,k,i,e⟩).2]),[]):=by
 have hn:=z1a;rw[zSu c d l k i e q];unfold zJ at q;simp only[zac7] at q;obtain⟨i1,i2,i3,i4,i5,i6,i7,i8⟩:=q;have h4:1<=d/\d<=24:=by simpa [inI] using i4
 have hz:=zcL d;rw[zacX zo,zacX zo] at hz;have hf:=zcC c;have hs0:=zaF c 0 32767;have hs1:=zaF c 32768 65535;clear h4;generalize zao c=rf at *;obtain⟨rf,ef⟩:=rf;simp only at *;generalize zG c 0 32767=r0 at *;obtain⟨r0,e0⟩:=r0;simp only at *;generalize zG c 32768 65535=r1 at *;obtain⟨r1,e1⟩:=r1;simp only at *;simp only[zk,zK,zi,zX,zU,zaw,zbE,zae,zB,zac1,zacZ] at *;exact zWa
theorem z1b:zg G zcc [.d (.int .i64 6),.d (.int .i64 3)] []=some (.d (.tup [zU ⟨1,[⟨0,21844,0⟩,⟨21845,43689,1⟩,⟨43690,65535,2⟩],[-1, -1, -1, -1, -1, -1]⟩,.int .i64 0]),[]):=by
 simp only[zU,zaw,zB,zac1,zacZ];exact zWd
theorem zSv(c d l k i e:Int)(q:zJ ⟨6,3,c,d,l,k,i,e⟩=true):zR ⟨6,3,c,d,l,k,i,e⟩=(⟨[⟨0,(zG c 0 21844).1⟩,⟨0,(zG c 21845 43689).1⟩,⟨0,(zG c 43690 65535).1⟩,⟨0,(zao c).1⟩,⟨0,(zao c).1⟩,⟨0,(zao c).1⟩],[⟨0,e,0,0⟩,⟨0,e,0,0⟩,⟨0,e,0,0⟩,⟨0,e,0,0⟩,⟨0,e,0,0⟩,⟨0,e,0,0⟩],⟨0,⟨d,[]⟩⟩,⟨1,[⟨0,21844,0⟩,⟨21845,43689,1⟩,⟨43690,65535,2⟩],[-1, -1, -1, -1, -1, -1]⟩,e,k,i⟩,0):=by
 have hd:zcr 6 3=(⟨1,[⟨0,21844,0⟩,⟨21845,43689,1⟩,⟨43690,65535,2⟩],[-1, -1, -1, -1, -1, -1]⟩,0):=by decide
 unfold zR;rw[zacX (by rw[q];decide)];simp only[hd];rfl
theorem z1w(c d l k i e:Int)(q:zJ ⟨6,3,c,d,l,k,i,e⟩=true):zg G zb7 [.d (zK ⟨6,3,c,d,l,k,i,e⟩)] []=some (.d (.tup [zi (zR ⟨6,3,c,d,l,k,i,e⟩).1,.int .i64 (zR ⟨6,3,c,d,l,k,i,e⟩).2]),[]):=by
 have hn:=z1b;rw[zSv c d l k i e q];unfold zJ at q;simp only[zac7] at q;obtain⟨i1,i2,i3,i4,i5,i6,i7,i8⟩:=q;have h4:1<=d/\d<=24:=by simpa [inI] using i4
 have hz:=zcL d;rw[zacX zo,zacX zo] at hz;have hf:=zcC c;have hs0:=zaF c 0 21844;have hs1:=zaF c 21845 43689;have hs2:=zaF c 43690 65535;clear h4;generalize zao c=rf at *;obtain⟨rf,ef⟩:=rf;simp only at *;generalize zG c 0 21844=r0 at *;obtain⟨r0,e0⟩:=r0;simp only at *;generalize zG c 21845 43689=r1 at *;obtain⟨r1,e1⟩:=r1;simp only at *;generalize zG c 43690 65535=r2 at *;obtain⟨r2,e2⟩:=r2;simp only at *;simp only[zk,zK,zi,zX,zU,zaw,zbE,zae,zB,zac1,zacZ] at *;exact zWa
theorem z1c:zg G zcc [.d (.int .i64 6),.d (.int .i64 4)] []=some (.d (.tup [zU ⟨1,[⟨0,16383,0⟩,⟨16384,32767,1⟩,⟨32768,49151,2⟩,⟨49152,65535,3⟩],[-1, -1, -1, -1, -1, -1]⟩,.int .i64 0]),[]):=by
 simp only[zU,zaw,zB,zac1,zacZ];exact zWd
theorem zSw(c d l k i e:Int)(q:zJ ⟨6,4,c,d,l,k,i,e⟩=true):zR ⟨6,4,c,d,l,k,i,e⟩=(⟨[⟨0,(zG c 0 16383).1⟩,⟨0,(zG c 16384 32767).1⟩,⟨0,(zG c 32768 49151).1⟩,⟨0,(zG c 49152 65535).1⟩,⟨0,(zao c).1⟩,⟨0,(zao c).1⟩],[⟨0,e,0,0⟩,⟨0,e,0,0⟩,⟨0,e,0,0⟩,⟨0,e,0,0⟩,⟨0,e,0,0⟩,⟨0,e,0,0⟩],⟨0,⟨d,[]⟩⟩,⟨1,[⟨0,16383,0⟩,⟨16384,32767,1⟩,⟨32768,49151,2⟩,⟨49152,65535,3⟩],[-1, -1, -1, -1, -1, -1]⟩,e,k,i⟩,0):=by
 have hd:zcr 6 4=(⟨1,[⟨0,16383,0⟩,⟨16384,32767,1⟩,⟨32768,49151,2⟩,⟨49152,65535,3⟩],[-1, -1, -1, -1, -1, -1]⟩,0):=by decide
 unfold zR;rw[zacX (by rw[q];decide)];simp only[hd];rfl
theorem z1x(c d l k i e:Int)(q:zJ ⟨6,4,c,d,l,k,i,e⟩=true):zg G zb7 [.d (zK ⟨6,4,c,d,l,k,i,e⟩)] []=some (.d (.tup [zi (zR ⟨6,4,c,d,l,k,i,e⟩).1,.int .i64 (zR ⟨6,4,c,d,l,k,i,e⟩).2]),[]):=by
 have hn:=z1c;rw[zSw c d l k i e q];unfold zJ at q;simp only[zac7] at q;obtain⟨i1,i2,i3,i4,i5,i6,i7,i8⟩:=q;have h4:1<=d/\d<=24:=by simpa [inI] using i4
 have hz:=zcL d;rw[zacX zo,zacX zo] at hz;have hf:=zcC c;have hs0:=zaF c 0 16383;have hs1:=zaF c 16384 32767;have hs2:=zaF c 32768 49151;have hs3:=zaF c 49152 65535;clear h4;generalize zao c=rf at *;obtain⟨rf,ef⟩:=rf;simp only at *;generalize zG c 0 16383=r0 at *;obtain⟨r0,e0⟩:=r0;simp only at *;generalize zG c 16384 32767=r1 at *;obtain⟨r1,e1⟩:=r1;simp only at *;generalize zG c 32768 49151=r2 at *;obtain⟨r2,e2⟩:=r2;simp only at *;generalize zG c 49152 65535=r3 at *;obtain⟨r3,e3⟩:=r3;simp only at *;simp only[zk,zK,zi,zX,zU,zaw,zbE,zae,zB,zac1,zacZ] at *;exact zWa
theorem z1d:zg G zcc [.d (.int .i64 6),.d (.int .i64 5)] []=some (.d (.tup [zU ⟨1,[⟨0,13106,0⟩,⟨13107,26213,1⟩,⟨26214,39320,2⟩,⟨39321,52427,3⟩,⟨52428,65535,4⟩],[-1, -1, -1, -1, -1, -1]⟩,.int .i64 0]),[]):=by
 simp only[zU,zaw,zB,zac1,zacZ];exact zWd
theorem zSx(c d l k i e:Int)(q:zJ ⟨6,5,c,d,l,k,i,e⟩=true):zR ⟨6,5,c,d,l,k,i,e⟩=(⟨[⟨0,(zG c 0 13106).1⟩,⟨0,(zG c 13107 26213).1⟩,⟨0,(zG c 26214 39320).1⟩,⟨0,(zG c 39321 52427).1⟩,⟨0,(zG c 52428 65535).1⟩,⟨0,(zao c).1⟩],[⟨0,e,0,0⟩,⟨0,e,0,0⟩,⟨0,e,0,0⟩,⟨0,e,0,0⟩,⟨0,e,0,0⟩,⟨0,e,0,0⟩],⟨0,⟨d,[]⟩⟩,⟨1,[⟨0,13106,0⟩,⟨13107,26213,1⟩,⟨26214,39320,2⟩,⟨39321,52427,3⟩,⟨52428,65535,4⟩],[-1, -1, -1, -1, -1, -1]⟩,e,k,i⟩,0):=by
 have hd:zcr 6 5=(⟨1,[⟨0,13106,0⟩,⟨13107,26213,1⟩,⟨26214,39320,2⟩,⟨39321,52427,3⟩,⟨52428,65535,4⟩],[-1, -1, -1, -1, -1, -1]⟩,0):=by decide
 unfold zR;rw[zacX (by rw[q];decide)];simp only[hd];rfl
theorem z1y(c d l k i e:Int)(q:zJ ⟨6,5,c,d,l,k,i,e⟩=true):zg G zb7 [.d (zK ⟨6,5,c,d,l,k,i,e⟩)] []=some (.d (.tup [zi (zR ⟨6,5,c,d,l,k,i,e⟩).1,.int .i64 (zR ⟨6,5,c,d,l,k,i,e⟩).2]),[]):=by
 have hn:=z1d;rw[zSx c d l k i e q];unfold zJ at q;simp only[zac7] at q;obtain⟨i1,i2,i3,i4,i5,i6,i7,i8⟩:=q;have h4:1<=d/\d<=24:=by simpa [inI] using i4
 have hz:=zcL d;rw[zacX zo,zacX zo] at hz;have hf:=zcC c;have hs0:=zaF c 0 13106;have hs1:=zaF c 13107 26213;have hs2:=zaF c 26214 39320;have hs3:=zaF c 39321 52427;have hs4:=zaF c 52428 65535;clear h4;generalize zao c=rf at *;obtain⟨rf,ef⟩:=rf;simp only at *;generalize zG c 0 13106=r0 at *;obtain⟨r0,e0⟩:=r0;simp only at *;generalize zG c 13107 26213=r1 at *;obtain⟨r1,e1⟩:=r1;simp only at *;generalize zG c 26214 39320=r2 at *;obtain⟨r2,e2⟩:=r2;simp only at *;generalize zG c 39321 52427=r3 at *;obtain⟨r3,e3⟩:=r3;simp only at *;generalize zG c 52428 65535=r4 at *;obtain⟨r4,e4⟩:=r4;simp only at *;simp only[zk,zK,zi,zX,zU,zaw,zbE,zae,zB,zac1,zacZ] at *;exact zWa
theorem z1e:zg G zcc [.d (.int .i64 6),.d (.int .i64 6)] []=some (.d (.tup [zU ⟨1,[⟨0,10921,0⟩,⟨10922,21844,1⟩,⟨21845,32767,2⟩,⟨32768,43689,3⟩,⟨43690,54612,4⟩,⟨54613,65535,5⟩],[-1, -1, -1, -1, -1, -1]⟩,.int .i64 0]),[]):=by
 simp only[zU,zaw,zB,zac1,zacZ];exact zWd
theorem zSy(c d l k i e:Int)(q:zJ ⟨6,6,c,d,l,k,i,e⟩=true):zR ⟨6,6,c,d,l,k,i,e⟩=(⟨[⟨0,(zG c 0 10921).1⟩,⟨0,(zG c 10922 21844).1⟩,⟨0,(zG c 21845 32767).1⟩,⟨0,(zG c 32768 43689).1⟩,⟨0,(zG c 43690 54612).1⟩,⟨0,(zG c 54613 65535).1⟩],[⟨0,e,0,0⟩,⟨0,e,0,0⟩,⟨0,e,0,0⟩,⟨0,e,0,0⟩,⟨0,e,0,0⟩,⟨0,e,0,0⟩],⟨0,⟨d,[]⟩⟩,⟨1,[⟨0,10921,0⟩,⟨10922,21844,1⟩,⟨21845,32767,2⟩,⟨32768,43689,3⟩,⟨43690,54612,4⟩,⟨54613,65535,5⟩],[-1, -1, -1, -1, -1, -1]⟩,e,k,i⟩,0):=by
 have hd:zcr 6 6=(⟨1,[⟨0,10921,0⟩,⟨10922,21844,1⟩,⟨21845,32767,2⟩,⟨32768,43689,3⟩,⟨43690,54612,4⟩,⟨54613,65535,5⟩],[-1, -1, -1, -1, -1, -1]⟩,0):=by decide
 unfold zR;rw[zacX (by rw[q];decide)];simp only[hd];rfl
theorem z1z(c d l k i e:Int)(q:zJ ⟨6,6,c,d,l,k,i,e⟩=true):zg G zb7 [.d (zK ⟨6,6,c,d,l,k,i,e⟩)] []=some (.d (.tup [zi (zR ⟨6,6,c,d,l,k,i,e⟩).1,.int .i64 (zR ⟨6,6,c,d,l,k,i,e⟩).2]),[]):=by
 have hn:=z1e;rw[zSy c d l k i e q];unfold zJ at q;simp only[zac7] at q;obtain⟨i1,i2,i3,i4,i5,i6,i7,i8⟩:=q;have h4:1<=d/\d<=24:=by simpa [inI] using i4
 have hz:=zcL d;rw[zacX zo,zacX zo] at hz;have hf:=zcC c;have hs0:=zaF c 0 10921;have hs1:=zaF c 10922 21844;have hs2:=zaF c 21845 32767;have hs3:=zaF c 32768 43689;have hs4:=zaF c 43690 54612;have hs5:=zaF c 54613 65535;generalize zao c=rf at *;obtain⟨rf,ef⟩:=rf;simp only at *;generalize zG c 0 10921=r0 at *;obtain⟨r0,e0⟩:=r0;simp only at *;generalize zG c 10922 21844=r1 at *;obtain⟨r1,e1⟩:=r1;simp only at *;generalize zG c 21845 32767=r2 at *;obtain⟨r2,e2⟩:=r2;simp only at *;generalize zG c 32768 43689=r3 at *;obtain⟨r3,e3⟩:=r3;simp only at *;generalize zG c 43690 54612=r4 at *;obtain⟨r4,e4⟩:=r4;simp only at *;generalize zG c 54613 65535=r5 at *;obtain⟨r5,e5⟩:=r5;simp only at *;simp only[zk,zK,zi,zX,zU,zaw,zbE,zae,zB,zac1,zacZ] at *;exact zWa
theorem zME(s:Setup):zg G zb7 [.d (zK s)] []=some (.d (.tup [zi (zR s).1,.int .i64 (zR s).2]),[]):=by
 obtain⟨n,l,c,d,li,k,i,e⟩:=s
 by_cases q:zJ ⟨n,l,c,d,li,k,i,e⟩=true
 ·have p:=q;unfold zJ at p;simp only[zac7,inI,decide_eq_true_eq] at p;obtain⟨⟨a1,a2⟩,⟨a3,a4⟩,p⟩:=p;clear p;have hn:n=1\/n=2\/n=3\/n=4\/n=5\/n=6:=by omega
  rcases hn with rfl|rfl|rfl|rfl|rfl|rfl
  ·have hl:l=1:=by omega
   subst hl;exact z1f c d li k i e q
  ·have hl:l=1\/l=2:=by omega
   rcases hl with rfl|rfl
   ·exact z1g c d li k i e q
   ·exact z1h c d li k i e q
  ·have hl:l=1\/l=2\/l=3:=by omega
   rcases hl with rfl|rfl|rfl
   ·exact z1i c d li k i e q
   ·exact z1j c d li k i e q
   ·exact z1k c d li k i e q
  ·have hl:l=1\/l=2\/l=3\/l=4:=by omega
   rcases hl with rfl|rfl|rfl|rfl
   ·exact z1l c d li k i e q
   ·exact z1m c d li k i e q
   ·exact z1n c d li k i e q
   ·exact z1o c d li k i e q
  ·have hl:l=1\/l=2\/l=3\/l=4\/l=5:=by omega
   rcases hl with rfl|rfl|rfl|rfl|rfl
   ·exact z1p c d li k i e q
   ·exact z1q c d li k i e q
   ·exact z1r c d li k i e q
   ·exact z1s c d li k i e q
   ·exact z1t c d li k i e q
  ·have hl:l=1\/l=2\/l=3\/l=4\/l=5\/l=6:=by omega
   rcases hl with rfl|rfl|rfl|rfl|rfl|rfl
   ·exact z1u c d li k i e q
   ·exact z1v c d li k i e q
   ·exact z1w c d li k i e q
   ·exact z1x c d li k i e q
   ·exact z1y c d li k i e q
   ·exact z1z c d li k i e q
 ·have e0:zR ⟨n,l,c,d,li,k,i,e⟩=(zF,1):=by
     unfold zR;rw[zacY (by simpa using q)]
  rw[e0];unfold zJ at q;simp only at q;have hz:zi zF= .agg [.sl [],.sl [],.int .i64 0,.int .i64 0,.sl [],.int .i64 0,.sl [],.sl [],.int .i64 0,.int .i64 0,.int .i64 0]:=rfl;simp only[hz];have g1:=zdz n 1 6;have g2:=zdz l 1 n;have g3:=zdz c 1 12;have g4:=zdz d 1 24;have g5:=zdz li 1 8;have g6:=zdz k 0 1073741824;have g7:=zdz i 1 1073741824;have g8:=zdz e 0 65536;generalize inI n 1 6=b1 at *;generalize inI l 1 n=b2 at *;generalize inI c 1 12=b3 at *;generalize inI d 1 24=b4 at *;generalize inI li 1 8=b5 at *;generalize inI k 0 1073741824=b6 at *;generalize inI i 1 1073741824=b7 at *;generalize inI e 0 65536=b8 at *;simp only[zK]
  cases b1
  ·clear q;exact zW zhg
  cases b2
  ·clear q;exact zW zhg
  cases b3
  ·clear q;exact zW zhg
  cases b4
  ·clear q;exact zW zhg
  cases b5
  ·clear q;exact zW zhg
  cases b6
  ·clear q;exact zW zhg
  cases b7
  ·clear q;exact zW zhg
  cases b8
  ·clear q;exact zW zhg
  exact absurd rfl q
theorem zYW{i:Invocation}{s:Setup}(hs:1<=s.slots/\s.slots<=6)(hT:i.tokens.length<=4294967296)(hB:i.bodies.length<=4294967296)(hk:i.kind=2):zg G zcZ [.d (z9 i),.d (zK s)] []=some (.d (.int .i64 (zaK i s)),[]):=by
 obtain⟨k,v2,v3,v4,v5,v6,v7,v8⟩:=i;obtain⟨s1,s2,s3,s4,s5,s6,s7,s8⟩:=s;simp only at *;subst hk;have h1:=zdA v2 0 (s1 - 1);have h2:=zdA v3 1 6;have h3:=zdA v4 0 1000;unfold zaK;simp only[z9,zK,Int.reduceEq,zae8,zaec,if_true,if_false,zadZ,zadX,zaeT,zaeK];generalize inI v2 0 (s1 - 1)=b1 at *;generalize inI v3 1 6=b2 at *;generalize inI v4 0 1000=b3 at *
 cases b1<;>cases b2<;>cases b3
 ·exact zW zas
 ·exact zW zas
 ·exact zW zas
 ·exact zW zas
 ·exact zW zas
 ·exact zW zas
 ·exact zW zas
 ·exact zW zas
theorem zY2{i:Invocation}{s:Setup}(hs:1<=s.slots/\s.slots<=6)(hT:i.tokens.length<=4294967296)(hB:i.bodies.length<=4294967296)(hk:i.kind=8):zg G zcZ [.d (z9 i),.d (zK s)] []=some (.d (.int .i64 (zaK i s)),[]):=by
 obtain⟨k,v2,v3,v4,v5,v6,v7,v8⟩:=i;obtain⟨s1,s2,s3,s4,s5,s6,s7,s8⟩:=s;simp only at *;subst hk;have h1:=zdA v2 0 (s1 - 1);have h2:=zdA v3 1 6;have h3:=zdA v4 0 1000;unfold zaK;simp only[z9,zK,Int.reduceEq,zae8,zaec,if_true,if_false,zadZ,zadX,zaeT,zaeK];generalize inI v2 0 (s1 - 1)=b1 at *;generalize inI v3 1 6=b2 at *;generalize inI v4 0 1000=b3 at *
 cases b1<;>cases b2<;>cases b3
 ·exact zW zas
 ·exact zW zas
 ·exact zW zas
 ·exact zW zas
 ·exact zW zas
 ·exact zW zas
 ·exact zW zas
 ·exact zW zas
theorem zYX{i:Invocation}{s:Setup}(hs:1<=s.slots/\s.slots<=6)(hT:i.tokens.length<=4294967296)(hB:i.bodies.length<=4294967296)(hk:i.kind=3):zg G zcZ [.d (z9 i),.d (zK s)] []=some (.d (.int .i64 (zaK i s)),[]):=by
 obtain⟨k,v2,v3,v4,v5,v6,v7,v8⟩:=i;obtain⟨s1,s2,s3,s4,s5,s6,s7,s8⟩:=s;simp only at *;subst hk;have h3:=zdA v4 0 1000;unfold zaK;simp only[z9,zK]
 by_cases c0:v8.length=0
 ·rw[zacX zo,zacX zo,zacY zo,zacY zo];exact zW zas
 by_cases c1:6<v8.length
 ·rw[zacX zo,zacX zo,zacY zo,zacY zo];exact zW zas
 rw[zacX zo,zacX zo,zacY zo,zacX zo];generalize inI v4 0 1000=b3 at *
 cases b3
 ·exact zW zas
 ·exact zW zas
theorem zYY{i:Invocation}{s:Setup}(hs:1<=s.slots/\s.slots<=6)(hT:i.tokens.length<=4294967296)(hB:i.bodies.length<=4294967296)(hk:i.kind=4):zg G zcZ [.d (z9 i),.d (zK s)] []=some (.d (.int .i64 (zaK i s)),[]):=by
 obtain⟨k,v2,v3,v4,v5,v6,v7,v8⟩:=i;obtain⟨s1,s2,s3,s4,s5,s6,s7,s8⟩:=s;simp only at *;subst hk;have h3:=zdA v4 0 1000;unfold zaK;simp only[z9,zK]
 by_cases c0:v8.length=0
 ·rw[zacX zo,zacX zo,zacY zo,zacY zo];exact zW zas
 by_cases c1:6<v8.length
 ·rw[zacX zo,zacX zo,zacY zo,zacY zo];exact zW zas
 rw[zacX zo,zacX zo,zacY zo,zacX zo];generalize inI v4 0 1000=b3 at *
 cases b3
 ·exact zW zas
 ·exact zW zas
theorem zYZ{i:Invocation}{s:Setup}(hs:1<=s.slots/\s.slots<=6)(hT:i.tokens.length<=4294967296)(hB:i.bodies.length<=4294967296)(hk:i.kind=5):zg G zcZ [.d (z9 i),.d (zK s)] []=some (.d (.int .i64 (zaK i s)),[]):=by
 obtain⟨k,v2,v3,v4,v5,v6,v7,v8⟩:=i;obtain⟨s1,s2,s3,s4,s5,s6,s7,s8⟩:=s;simp only at *;subst hk;have h3:=zdA v4 0 1000;unfold zaK;simp only[z9,zK]
 by_cases c0:v8.length=0
 ·rw[zacX zo,zacX zo,zacY zo,zacY zo];exact zW zas
 by_cases c1:6<v8.length
 ·rw[zacX zo,zacX zo,zacY zo,zacY zo];exact zW zas
 rw[zacX zo,zacX zo,zacY zo,zacX zo];generalize inI v4 0 1000=b3 at *
 cases b3
 ·exact zW zas
 ·exact zW zas
theorem zY3{i:Invocation}{s:Setup}(hs:1<=s.slots/\s.slots<=6)(hT:i.tokens.length<=4294967296)(hB:i.bodies.length<=4294967296)(hk:i.kind=9):zg G zcZ [.d (z9 i),.d (zK s)] []=some (.d (.int .i64 (zaK i s)),[]):=by
 obtain⟨k,v2,v3,v4,v5,v6,v7,v8⟩:=i;obtain⟨s1,s2,s3,s4,s5,s6,s7,s8⟩:=s;simp only at *;subst hk;have h1:=zdA v5 0 (s1 - 1);have h2:=zdA v6 0 (s1 - 1);unfold zaK;simp only[z9,zK];rw[zacX zo,zacX zo,zacX zo,zacY zo];generalize inI v5 0 (s1 - 1)=b1 at *;generalize inI v6 0 (s1 - 1)=b2 at *
 by_cases c:v5=v6
 ·subst c
  cases b1<;>cases b2
  ·exact zW zas
  ·exact zW zas
  ·exact zW zas
  ·exact zW zas
 ·replace c:=zac3 c
  cases b1<;>cases b2
  ·exact zW zas
  ·exact zW zas
  ·exact zW zas
  ·exact zW zas
theorem zYQ{i:Invocation}{s:Setup}(hs:1<=s.slots/\s.slots<=6)(hT:i.tokens.length<=4294967296)(hB:i.bodies.length<=4294967296)(hk:i.kind=10):zg G zcZ [.d (z9 i),.d (zK s)] []=some (.d (.int .i64 (zaK i s)),[]):=by
 obtain⟨k,v2,v3,v4,v5,v6,v7,v8⟩:=i;obtain⟨s1,s2,s3,s4,s5,s6,s7,s8⟩:=s;simp only at *;subst hk;have h1:=zdA v5 0 (s1 - 1);have h2:=zdA v6 0 (s1 - 1);unfold zaK;simp only[z9,zK];rw[zacX zo,zacX zo,zacX zo,zacY zo];generalize inI v5 0 (s1 - 1)=b1 at *;generalize inI v6 0 (s1 - 1)=b2 at *
 by_cases c:v5=v6
 ·subst c
  cases b1<;>cases b2
  ·exact zW zas
  ·exact zW zas
  ·exact zW zas
  ·exact zW zas
 ·replace c:=zac3 c
  cases b1<;>cases b2
  ·exact zW zas
  ·exact zW zas
  ·exact zW zas
  ·exact zW zas
theorem zYR{i:Invocation}{s:Setup}(hs:1<=s.slots/\s.slots<=6)(hT:i.tokens.length<=4294967296)(hB:i.bodies.length<=4294967296)(hk:i.kind=11):zg G zcZ [.d (z9 i),.d (zK s)] []=some (.d (.int .i64 (zaK i s)),[]):=by
 obtain⟨k,v2,v3,v4,v5,v6,v7,v8⟩:=i;obtain⟨s1,s2,s3,s4,s5,s6,s7,s8⟩:=s;simp only at *;subst hk;have h1:=zdA v5 0 (s1 - 1);have h2:=zdA v6 0 (s1 - 1);unfold zaK;simp only[z9,zK];rw[zacX zo,zacX zo,zacX zo,zacY zo];generalize inI v5 0 (s1 - 1)=b1 at *;generalize inI v6 0 (s1 - 1)=b2 at *
 by_cases c:v5=v6
 ·subst c
  cases b1<;>cases b2
  ·exact zW zas
  ·exact zW zas
  ·exact zW zas
  ·exact zW zas
 ·replace c:=zac3 c
  cases b1<;>cases b2
  ·exact zW zas
  ·exact zW zas
  ·exact zW zas
  ·exact zW zas
theorem zYS{i:Invocation}{s:Setup}(hs:1<=s.slots/\s.slots<=6)(hT:i.tokens.length<=4294967296)(hB:i.bodies.length<=4294967296)(hk:i.kind=12):zg G zcZ [.d (z9 i),.d (zK s)] []=some (.d (.int .i64 (zaK i s)),[]):=by
 obtain⟨k,v2,v3,v4,v5,v6,v7,v8⟩:=i;obtain⟨s1,s2,s3,s4,s5,s6,s7,s8⟩:=s;simp only at *;subst hk;have h1:=zdA v5 0 (s1 - 1);unfold zaK;simp only[z9,zK];rw[zacX zo,zacX zo,zacX zo,zacX zo,zacY (by simp)];generalize inI v5 0 (s1 - 1)=b1 at *
 cases b1
 ·exact zW zas
 ·exact zW zas
theorem zYU{i:Invocation}{s:Setup}(hs:1<=s.slots/\s.slots<=6)(hT:i.tokens.length<=4294967296)(hB:i.bodies.length<=4294967296)(hk:i.kind=14):zg G zcZ [.d (z9 i),.d (zK s)] []=some (.d (.int .i64 (zaK i s)),[]):=by
 obtain⟨k,v2,v3,v4,v5,v6,v7,v8⟩:=i;obtain⟨s1,s2,s3,s4,s5,s6,s7,s8⟩:=s;simp only at *;subst hk;have h1:=zdA v5 0 (s1 - 1);unfold zaK;simp only[z9,zK];rw[zacX zo,zacX zo,zacX zo,zacX zo,zacY (by simp)];generalize inI v5 0 (s1 - 1)=b1 at *
 cases b1
 ·exact zW zas
 ·exact zW zas
theorem zYT{i:Invocation}{s:Setup}(hs:1<=s.slots/\s.slots<=6)(hT:i.tokens.length<=4294967296)(hB:i.bodies.length<=4294967296)(hk:i.kind=13):zg G zcZ [.d (z9 i),.d (zK s)] []=some (.d (.int .i64 (zaK i s)),[]):=by
 obtain⟨k,v2,v3,v4,v5,v6,v7,v8⟩:=i;obtain⟨s1,s2,s3,s4,s5,s6,s7,s8⟩:=s;simp only at *;subst hk;unfold zaK;simp only[z9,zK];rw[zacX zo,zacX zo,zacX zo,zacX zo,zacX zo,zacY (by simp)]
 by_cases c1:v5<0
 ·exact zW zas
 by_cases c2:s1<v5
 ·exact zW zas
 ·exact zW zas
theorem zY0{i:Invocation}{s:Setup}(hs:1<=s.slots/\s.slots<=6)(hT:i.tokens.length<=4294967296)(hB:i.bodies.length<=4294967296)(hk:i.kind=6):zg G zcZ [.d (z9 i),.d (zK s)] []=some (.d (.int .i64 (zaK i s)),[]):=by
 obtain⟨k,v2,v3,v4,v5,v6,v7,v8⟩:=i;obtain⟨s1,s2,s3,s4,s5,s6,s7,s8⟩:=s;simp only at *;subst hk;unfold zaK;simp only[z9,zK];rw[zacX zo,zacX zo,zacX zo,zacX zo,zacX zo,zacX zo,zacY (by simp)];exact zW zas
theorem zY1{i:Invocation}{s:Setup}(hs:1<=s.slots/\s.slots<=6)(hT:i.tokens.length<=4294967296)(hB:i.bodies.length<=4294967296)(hk:i.kind=7):zg G zcZ [.d (z9 i),.d (zK s)] []=some (.d (.int .i64 (zaK i s)),[]):=by
 obtain⟨k,v2,v3,v4,v5,v6,v7,v8⟩:=i;obtain⟨s1,s2,s3,s4,s5,s6,s7,s8⟩:=s;simp only at *;subst hk;unfold zaK;simp only[z9,zK];rw[zacX zo,zacX zo,zacX zo,zacX zo,zacX zo,zacX zo,zacY (by simp)];exact zW zas
def vlS(hp:zf)(k:Nat):St:=⟨[(2,.ref 2 0 0),(6,.d (.int .i64 k))],hp⟩
theorem zact(v7 v8:List (List UInt8))(v2 v3 v4 v5 v6:Int)(hB:v7.length<=6)(hp:zf)(hh:hp=[(2,.row [.d (.agg [.int .i64 1,.int .i64 v2,.int .i64 v3,.int .i64 v4,.int .i64 v5,.int .i64 v6,.sl (v7.map .str),.sl (v8.map zaR)])])]):∀k:Nat,k<=v7.length->zai G [] zA7 (vlS hp k)=if ((v7.drop k).any fun b=>decide (16<b.length))=true then some (.ret,⟨[(4,.d (.int .i64 2))],[]⟩) else some (.exit 1,⟨[],[]⟩):=by
 refine za3 (fun k=>v7.length - k) _ _ _ fun k hk L ih=> ?_;simp only[vlS,hh,zA7] at ih ⊢
 by_cases h0:k<v7.length
 ·have i1:=ih (k+1) zo zo;have hd:v7.drop k=v7[k]::v7.drop (k+1):=zady h0;rw[hd,zaeE];clear ih hd
  by_cases c:16<v7[k].length
  ·rw[zacY (by simp [c])];clear i1;exact zS
  ·have e:(decide (16<v7[k].length)||(v7.drop (k+1)).any fun b=>decide (16<b.length))=(v7.drop (k+1)).any fun b=>decide (16<b.length):=by simp [c]
   rw[e];generalize ((v7.drop (k+1)).any fun b=>decide (16<b.length))=w at *;clear e;simp only[zNr,zE] at i1;exact zS
 ·have:k=v7.length:=by omega
  subst this;clear ih;rw[zacX (by simp)];exact zS
theorem zYV{i:Invocation}{s:Setup}(hs:1<=s.slots/\s.slots<=6)(hT:i.tokens.length<=4294967296)(hB:i.bodies.length<=4294967296)(hk:i.kind=1):zg G zcZ [.d (z9 i),.d (zK s)] []=some (.d (.int .i64 (zaK i s)),[]):=by
 obtain⟨k,v2,v3,v4,v5,v6,v7,v8⟩:=i;obtain⟨s1,s2,s3,s4,s5,s6,s7,s8⟩:=s;simp only at *;subst hk;unfold zaK;simp only[z9,zK];rw[zacY trivial]
 by_cases c0:v7.length=0
 ·rw[zacY zo];exact zW zas
 by_cases c1:6<v7.length
 ·rw[zacY zo];exact zW zas
 rw[zacX zo];have hl:=zact v7 v8 v2 v3 v4 v5 v6 zo _ rfl 0 zo;simp only[vlS,zadu,zado] at hl
 by_cases c:(v7.any fun b=>decide (16<b.length))=true
 ·rw[zacY c] at hl;rw[zacY c];clear c;exact zW zas
 ·rw[zacX c] at hl;rw[zacX c];clear c;exact zW zas
theorem zY4{i:Invocation}{s:Setup}(hs:1<=s.slots/\s.slots<=6)(hk:i.kind<1\/14<i.kind):zg G zcZ [.d (z9 i),.d (zK s)] []=some (.d (.int .i64 (zaK i s)),[]):=by
 obtain⟨k,v2,v3,v4,v5,v6,v7,v8⟩:=i;obtain⟨s1,s2,s3,s4,s5,s6,s7,s8⟩:=s;simp only at *;unfold zaK;simp only[z9,zK];rw[zacX zo,zacX zo,zacX zo,zacX zo,zacX zo,zacX zo,zacX zo];have a1:¬k=1:=by omega
 have a2:¬k=2:=by omega
 have a3:¬k=3:=by omega
 have a4:¬k=4:=by omega
 have a5:¬k=5:=by omega
 have a6:¬k=6:=by omega
 have a7:¬k=7:=by omega
 have a8:¬k=8:=by omega
 have a9:¬k=9:=by omega
 have b0:¬k=10:=by omega
 have b1:¬k=11:=by omega
 have b2:¬k=12:=by omega
 have b3:¬k=13:=by omega
 have b4:¬k=14:=by omega
 clear hk;exact zW zas
theorem zacu{i:Invocation}{s:Setup}(hs:1<=s.slots/\s.slots<=6)(hT:i.tokens.length<=4294967296)(hB:i.bodies.length<=4294967296):zg G zcZ [.d (z9 i),.d (zK s)] []=some (.d (.int .i64 (zaK i s)),[]):=by
 by_cases c:i.kind<1\/14<i.kind
 ·exact zY4 hs c
 have h:i.kind=1\/i.kind=2\/i.kind=3\/i.kind=4\/i.kind=5\/i.kind=6\/i.kind=7\/i.kind=8\/i.kind=9\/i.kind=10\/i.kind=11\/i.kind=12\/i.kind=13\/i.kind=14:=by omega
 rcases h with h|h|h|h|h|h|h|h|h|h|h|h|h|h
 ·exact zYV hs hT hB h
 ·exact zYW hs hT hB h
 ·exact zYX hs hT hB h
 ·exact zYY hs hT hB h
 ·exact zYZ hs hT hB h
 ·exact zY0 hs hT hB h
 ·exact zY1 hs hT hB h
 ·exact zY2 hs hT hB h
 ·exact zY3 hs hT hB h
 ·exact zYQ hs hT hB h
 ·exact zYR hs hT hB h
 ·exact zYS hs hT hB h
 ·exact zYT hs hT hB h
 ·exact zYU hs hT hB h
theorem zabf(m n:Int){i:Invocation}{s:Setup}(hT:i.tokens.length<=4294967296)(hB:i.bodies.length<=4294967296):zg G zp6 [.d (.int .i64 m),.d (z9 i),.d (zK s),.d (.int .i64 n)] []=some (.d (.tup [zd (ze1 m i s n).1,.int .i64 (ze1 m i s n).2]),[]):=by
 have hn:=zME s;unfold ze1;have hz:zd zD=(zd zD:D):=rfl
 by_cases c0:m<1
 ·rw[zacY zo];clear hn hz;simp only[zd,zD,z9,ze4,zdp,zK,zbu,zC,zcd,zdN,zec,zd3,zZ,ze5,zU,zcN,zbF,zdc,zaH,zdo,zX,zaW,zB,zacZ];exact zW zku
 by_cases c1:200<m
 ·rw[zacY zo];clear hn hz;simp only[zd,zD,z9,ze4,zdp,zK,zbu,zC,zcd,zdN,zec,zd3,zZ,ze5,zU,zcN,zbF,zdc,zaH,zdo,zX,zaW,zB,zacZ];exact zW zku
 by_cases c2:n<0
 ·rw[zacY zo];clear hn hz;simp only[zd,zD,z9,ze4,zdp,zK,zbu,zC,zcd,zdN,zec,zd3,zZ,ze5,zU,zcN,zbF,zdc,zaH,zdo,zX,zaW,zB,zacZ];exact zW zku
 rw[zacX zo]
 by_cases q:zJ s=false
 ·rw[zacY q];have e0:zR s=(zF,1):=by
   unfold zR;rw[zacY q]
  rw[e0] at hn;clear e0 q hz;have sz_zArena:=zaq zF;generalize zi zF=D_zArena at *;simp only[zd,zD,z9,ze4,zdp,zK,zbu,zC,zcd,zdN,zec,zd3,zZ,ze5,zU,zcN,zbF,zdc,zaH,zdo,zX,zaW,zB,zacZ] at *;exact zW zku
 rw[zacX q];have hs:1<=s.slots/\s.slots<=6:=by
  have p:zJ s=true:=by simpa using q
  unfold zJ at p;simp only[zac7,inI,decide_eq_true_eq] at p;exact p.1
 have e1:(zR s).2=0:=by
  unfold zR;rw[zacX q]
 rw[e1] at hn;have hv:=zacu hs hT hB;clear q e1 hs hz;generalize zR s=r at *;obtain⟨r,re⟩:=r;simp only at hn;have sz_r:=zaq r;generalize zi r=D_r at *;generalize zaK i s=w at *
 by_cases c3:w=0
 ·subst c3;rw[zacX (by simp)];clear hT hB;simp only[zd,zD,z9,ze4,zdp,zK,zbu,zC,zcd,zdN,zec,zd3,zZ,ze5,zU,zcN,zbF,zdc,zaH,zdo,zX,zaW,zB,zacZ] at *;exact zW zku
 ·rw[zacY c3];replace c3:=zac3 c3;clear hT hB;simp only[zd,zD,z9,ze4,zdp,zK,zbu,zC,zcd,zdN,zec,zd3,zZ,ze5,zU,zcN,zbF,zdc,zaH,zdo,zX,zaW,zB,zacZ] at *;exact zW zku
def zdC(s:Setup):World×Int:=if (zR s).2≠0 then (zbv,(zR s).2) else ({ zbv with setup:=s,arena:=(zR s).1 },0)
theorem zMF(s:Setup):zg G zl5 [.d (zK s)] []=some (.d (.tup [zM (zdC s).1,.int .i64 (zdC s).2]),[]):=by
 have hn:=zME s;unfold zdC;generalize zR s=r at *;obtain⟨a,e⟩:=r;simp only at *
 by_cases c:e=0
 ·subst c;rw[zacX (by simp)];simp only[zM,zK,zbv,zi,zacZ] at *;exact zW zIY
 ·rw[zacY c];replace c:=zac3 c;simp only[zM,zK,zbv,zdp,zi,zF,zacZ,zfv,zX,zB] at *;exact zW zIY
theorem zabT(w:World)(b:Int)(hc:0<=w.arena.clock/\w.arena.clock<=1073741824)(hs:0<=w.steps/\w.steps<=1000000)(hl:w.log.length<=1000000):zg G zqF [.d (zM w),.d (.int .i64 b)] []=some (.d (.tup [zM (zep w b).1,.int .i64 (zep w b).2]),[]):=by
 have ht:=zabS w.arena b hc;unfold zep;generalize ze3 w.arena b=r at *;obtain⟨a,e⟩:=r;simp only at *
 by_cases c:e=0
 ·subst c;rw[zacX (by simp)];obtain⟨s,wa,tasks,handles,log,steps⟩:=w;simp only[zM,zK,zi,zad,zbt,zacZ,zadg,zac1] at *;exact zW zI0
 ·rw[zacY c];replace c:=zac3 c;simp only[zM,zK,zbv,zdp,zi,zF,zacZ,zfv,zX,zB] at *;exact zW zI0
def opL(l:List zq)(k:Nat):List Int:=((List.range k).filter fun i=> !(l.getD i zD).done).map fun i:Nat=>(i:Int)
theorem z6b(l:List zq)(k:Nat)(h:k<l.length):opL l (k+1)=if l[k].done=true then opL l k else opL l k++[(k:Int)]:=by
 unfold opL;rw[zafV,zafW,zadg]
 cases c:l[k].done<;>simp [zaen,zada h,c]
theorem z6a(l:List zq)(k:Nat):(opL l k).length<=k:=by
 unfold opL;rw[zadd];exact zadL (zaeh _ _) (by simp)
def opS(w:World)(k:Nat):St:=⟨[(1,.ref 1 0 0),(3,.acc 3 (zB (opL w.tasks k))),(4,.d (.int .i64 k))],[(1,.row [.d (zM w)]),(3,.acc (opL w.tasks k).length)]⟩
theorem zMV(w:World)(hl:w.tasks.length<=1000):∀k:Nat,k<=w.tasks.length->zai G [] zA8 (opS w k)=some (.exit 0,⟨[(3,.acc 3 (zB (opL w.tasks w.tasks.length)))],[(3,.acc (opL w.tasks w.tasks.length).length)]⟩):=by
 refine za3 (fun k=>w.tasks.length - k) _ _ _ fun k hk L ih=> ?_;simp only[opS,zA8] at ih ⊢
 by_cases h0:k<w.tasks.length
 ·have i1:=ih (k+1) zo zo;clear ih;have hn:=z6a w.tasks k;rw[z6b w.tasks k h0] at i1;generalize opL w.tasks w.tasks.length=z at *;generalize opL w.tasks k=o at *;obtain⟨s,wa,tasks,log,steps,handles⟩:=w;simp only at h0;simp only[zM] at *
  cases c:tasks[k].done
  ·rw[c] at i1;simp only[zac8,if_false,zB,zadg,zac1,zacZ,zac6] at i1 ⊢;simp only[zNr,zE] at i1;simp -implicitDefEqProofs (maxSteps:=4000000) (disch:=omega) only[zd,zj,go_sem, *]
  ·rw[c] at i1;simp only[if_true] at i1;simp only[zNr,zE] at i1;simp -implicitDefEqProofs (maxSteps:=4000000) (disch:=omega) only[zd,zj,go_sem, *]
 ·have e:k=w.tasks.length:=by omega
  rw[<- e];clear ih;have h1:(w.tasks.length:Int)<=k:=by omega
  generalize opL w.tasks k=o at *;obtain⟨s,wa,tasks,log,steps,handles⟩:=w;simp only[zM] at *;clear e;exact zS
theorem zBI(w:World)(hl:w.tasks.length<=1000)(q:opL w.tasks w.tasks.length=[]):zg G zl6 [.d (zM w)] []=some (.xsl [],[]):=by
 have h:=zMV w hl 0 zo;have e:opL w.tasks 0=[]:=rfl;simp only[opS,e,zacZ,zac5,zado] at h;clear e;rw[q] at h;clear q;obtain⟨s,wa,tasks,log,steps,handles⟩:=w;simp only[zM,zB,zacZ,zac5] at *;exact zW zIZ
theorem zBH(w:World)(hl:w.tasks.length<=1000)(o1:Int)(o:List Int)(q:opL w.tasks w.tasks.length=o1::o):zg G zl6 [.d (zM w)] []=some (.osl 0 0 (o.length+1),[(0,.row (.d (.int .i64 o1)::(zB o).map .d))]):=by
 have h:=zMV w hl 0 zo;have e:opL w.tasks 0=[]:=rfl;simp only[opS,e,zacZ,zac5,zado] at h;clear e;rw[q] at h;clear q;obtain⟨s,wa,tasks,log,steps,handles⟩:=w;simp only[zM,zB,zac1,zacZ,zac4,zac5] at *;exact zW zIZ
theorem zMR(w:World):opL w.tasks w.tasks.length=(zbA w).map fun i:Nat=>(i:Int):=rfl
theorem zBJ(w:World):(opL w.tasks w.tasks.length).length=(zbA w).length:=by
 rw[zMR,zadd]
theorem zL0(w:World){i:Invocation}(hl:w.tasks.length<=200)(hT:i.tokens.length<=4294967296)(hB:i.bodies.length<=4294967296):zg G zl4 [.d (zM w),.d (z9 i)] []=some (.d (.tup [zM (zdg w i).1,.int .i64 (zdg w i).2.1,.int .i64 (zdg w i).2.2]),[]):=by
 have hn:=zBI w zo;have hc:=zBH w zo;have hs:=zabf (w.tasks.length+1) w.steps (i:=i) (s:=w.setup) hT hB;have hol:=zBJ w;clear hT hB;unfold zdg;generalize ze1 (w.tasks.length+1) i w.setup w.steps=r at *;obtain⟨t,e⟩:=r;simp only at *;have sz_i:=zVg i;generalize z9 i=D_i at *
 by_cases c0:200<=w.tasks.length
 ·rw[zacY (Or.inl c0)];clear hn hc hs hol;obtain⟨s,wa,tasks,log,steps,handles⟩:=w;simp only at c0;simp only[zM,zK,zbv,zdp,zi,zF,zacZ,zfv,zX,zB] at *;exact zW zkw
 by_cases c1:8<=(zbA w).length
 ·rw[zacY (Or.inr c1)];rw[<- hol] at c1;clear hn hs hol;generalize opL w.tasks w.tasks.length=o at *
  rcases o with _|⟨o1,o⟩
  ·simp at c1
  have h:=hc o1 o rfl;clear hc;obtain⟨s,wa,tasks,log,steps,handles⟩:=w;simp only[zac4] at c0 c1;simp only[zM,zK,zbv,zdp,zi,zF,zacZ,zfv,zX,zB] at *;exact zW zkw
 rw[zacX zo];rw[<- hol] at c1;clear hol;generalize opL w.tasks w.tasks.length=o at *
 rcases o with _|⟨o1,o⟩
 ·have h:=hn rfl;clear hn hc c1
  by_cases c2:e=0
  ·subst c2;rw[zacX (by simp)];obtain⟨s,wa,tasks,log,steps,handles⟩:=w;simp only at c0;simp only[zM,zK,zadg,zac1,zacZ] at *;have sz_t:=zA t;generalize zd t=D_t at *;exact zW zkw
  ·rw[zacY c2];replace c2:=zac3 c2;obtain⟨s,wa,tasks,log,steps,handles⟩:=w;simp only at c0;simp only[zM,zK,zbv,zdp,zi,zF,zacZ,zfv,zX,zB] at *;have sz_t:=zA t;generalize zd t=D_t at *;exact zW zkw
 ·have h:=hc o1 o rfl;clear hn hc
  by_cases c2:e=0
  ·subst c2;rw[zacX (by simp)];obtain⟨s,wa,tasks,log,steps,handles⟩:=w;simp only[zac4] at c0 c1;simp only[zM,zK,zadg,zac1,zacZ] at *;have sz_t:=zA t;generalize zd t=D_t at *;exact zW zkw
  ·rw[zacY c2];replace c2:=zac3 c2;obtain⟨s,wa,tasks,log,steps,handles⟩:=w;simp only[zac4] at c0 c1;simp only[zM,zK,zbv,zdp,zi,zF,zacZ,zfv,zX,zB] at *;have sz_t:=zA t;generalize zd t=D_t at *;exact zW zkw
theorem zabl{K:Tok}(hK:zcu K){u:Setup}{w:World}{i:Nat}(hw:WI u w)(hi:i<w.tasks.length)(hN:w.steps<=999998)(hL:w.log.length<=1000000)(hev:(zcn K w.arena w.tasks[i] (w.steps+1)).2.2.1.length<=1000)(hres:(zcn K w.arena w.tasks[i] (w.steps+1)).2.2.2=0->(zcn K w.arena w.tasks[i] (w.steps+1)).2.1.results=w.tasks[i].results\/∃r:Result,r.tokens.length<=1000/\(zcn K w.arena w.tasks[i] (w.steps+1)).2.1.results=w.tasks[i].results++[r])(hrl:w.tasks[i].results.length<=1000)(hH:w.handles.length<=10000000)(hb:∀b∈(w.tasks[i]).inv.tokens,b.length<=4294967296):zg G zjS [.d (zM w),.d (.int .i64 i)] []=some (.d (.tup [zM (zdl K w i).1,.int .i64 (zdl K w i).2]),[]):=by
 have h:=zabN (n:=w.steps+1) hK hw.hu hw.ar (hw.ts _ (zadf hi)) zo hb;have hs:=hw.st;have hl:=hw.tl;unfold zdl;have e0:w.tasks.getD i zD=w.tasks[i]:=by rw[zadC,zada hi];rfl
 simp only[e0];clear hw hb e0;generalize hr:zcn K w.arena w.tasks[i] (w.steps+1)=r at *;obtain⟨a2,t2,ev,e⟩:=r;clear hr;simp only at *
 by_cases c:e=0
 ·subst c;rw[zacX (by simp)];obtain⟨s,wa,tasks,log,steps,handles⟩:=w;simp only at hi hN hL hs hl hH hres hrl;generalize ht:tasks[i]=t at *;obtain⟨u1,u2,u3,u4,u5,u6,u7,u8,u9,w1,w2,w3,w4,w5,w6,w7,w8,w9⟩:=t2;have hres:=hres trivial
  rcases hres with q|⟨x,hx,q⟩
  ·subst q;simp only[zadI,zacZ,zae4,zadk];clear hK;simp only[zM,zK,zi,zd,zadg,zac1,zacZ] at *;rw[zO zzS (by simp)];simp -implicitDefEqProofs (maxSteps:=4000000) (disch:=omega) only[zrc,zty,zd,za2,zmV,zj,go_sem, *];(try simp only[zPr]);repeat' (first|done|rfl|((first|refine zay (fun hq=> ?_) (fun hq=> ?_)|refine zaD (fun hq=> ?_) (fun hq=> ?_))<;>(try (first|(exfalso;omega)|contradiction))<;>(try simp -implicitDefEqProofs (maxSteps:=4000000) (disch:=omega) only[zd,za2,zmV,zj,go_sem, *])<;>(try simp only[zPr])));(all_goals try rfl);(all_goals try (repeat' (first|done|rfl|(exfalso;omega)|contradiction|(refine zaz (fun hq=> ?_) (fun hq=> ?_)))))
  ·subst q;have hg:(List.map z6 t.results++[D.agg [.int .i64 x.err,.int .i64 x.id,.sl (x.tokens.map zaR),.sl (x.bodies.map .str),.int .i64 x.ready,.int .i64 x.leased,.int .i64 x.moved]])[t.results.length]? = some (D.agg [.int .i64 x.err,.int .i64 x.id,.sl (x.tokens.map zaR),.sl (x.bodies.map .str),.int .i64 x.ready,.int .i64 x.leased,.int .i64 x.moved]):=by
    rw[zaeg (by simp)];simp
   simp only[zafT,zac1,zacZ,zafU,zae4,zadk];clear hK;simp only[zM,zK,zi,zd,zadg,zac1,zacZ,z6] at *;rw[zO zzS (by simp)];simp -implicitDefEqProofs (maxSteps:=4000000) (disch:=omega) only[zrc,zty,zd,z6,za2,zmV,zj,go_sem, *];(try simp only[zPr]);repeat' (first|done|rfl|((first|refine zay (fun hq=> ?_) (fun hq=> ?_)|refine zaD (fun hq=> ?_) (fun hq=> ?_))<;>(try (first|(exfalso;omega)|contradiction))<;>(try simp -implicitDefEqProofs (maxSteps:=4000000) (disch:=omega) only[zd,z6,za2,zmV,zj,go_sem, *])<;>(try simp only[zPr])));(all_goals try rfl);(all_goals try (repeat' (first|done|rfl|(exfalso;omega)|contradiction|(refine zaz (fun hq=> ?_) (fun hq=> ?_)))))
 ·rw[zacY c];replace c:=zac3 c;obtain⟨s,wa,tasks,log,steps,handles⟩:=w;simp only at hi hN hL hs hl;generalize ht:tasks[i]=t at *;simp only[zM,zK,zbv,zdp,zi,zF,zacZ,zfv,zX,zB] at *;exact zW zzS
theorem z6A{K:Tok}{u:Setup}{w:World}{k:Int}(hw:WI u w)(hstep:∀i:Nat,i<w.tasks.length->zg G zjS [.d (zM w),.d (.int .i64 i)] []=some (.d (.tup [zM (zdl K w i).1,.int .i64 (zdl K w i).2]),[])):zg G zl7 [.d (zM w),.d (.int .i64 k)] []=some (.d (.tup [zM (zdD K w k).1,.int .i64 (zdD K w k).2]),[]):=by
 have hl:=hw.tl;have hn:=zBI w zo;have hc:=zBH w zo;have hol:=zBJ w;have hoo:=zMR w;unfold zdD;clear hw
 by_cases c:k<0\/((zbA w).length:Int)<=k
 ·rw[zacY c];rw[<- hol] at c;clear hstep hol hoo;generalize opL w.tasks w.tasks.length=o at *;have hz:zM zbv= .agg [.int .i64 0,.int .i64 0,.int .i64 0,.int .i64 0,.int .i64 0,.int .i64 0,.int .i64 0,.int .i64 0,.sl [],.sl [],.int .i64 0,.int .i64 0,.sl [],.int .i64 0,.sl [],.sl [],.int .i64 0,.int .i64 0,.int .i64 0,.sl [],.sl [],.int .i64 0,.sl []]:=rfl;simp only[hz];clear hz
  rcases o with _|⟨o1,o⟩
  ·have h:=hn rfl;clear hn hc;have sz_w:=zbo w;generalize zM w=D_w at *
   by_cases c0:k<0
   ·clear c;exact zW zmB
   ·simp only[zac5] at c;have c1:0<=k:=by omega
    clear c;exact zW zmB
  ·have h:=hc o1 o rfl;clear hn hc;simp only[zac4] at c;have sz_w:=zbo w;generalize zM w=D_w at *
   by_cases c0:k<0
   ·clear c;exact zW zmB
   ·have c1:(o.length:Int)+1<=k:=by omega
    clear c;exact zW zmB
 ·rw[zacX c];have hk:k.toNat<(zbA w).length:=by omega
  have hs:=hstep _ (zMU hk);have hg:(opL w.tasks w.tasks.length)[k.toNat]? = some (((zbA w).getD k.toNat 0:Nat):Int):=by
   rw[hoo,zadj,zadC,zada hk];rfl
  rw[<- hol] at c hk;generalize (zbA w).getD k.toNat 0=i at *;clear hstep hol hoo;generalize zdl K w i=r at *;obtain⟨r,e⟩:=r;simp only at hs;generalize opL w.tasks w.tasks.length=o at *
  rcases o with _|⟨o1,o⟩
  ·simp at hk
  have h:=hc o1 o rfl;clear hn hc;simp only;have sz_r:=zbo r;generalize zM r=D_r at *;have sz_w:=zbo w;generalize zM w=D_w at *;obtain⟨k2,rfl⟩:∃k2:Nat,k=k2:=⟨k.toNat,by omega⟩;simp only[zadG,zac4] at hg c hk;clear c;have hg2:(AV.d (D.int .i64 o1)::(zB o).map AV.d)[k2]? = some (.d (.int .i64 i)):=by
   show (((o1::o).map (D.int .i64)).map AV.d)[k2]? = _;rw[zadj,zadj,hg];rfl
  clear hg;exact zW zmB
def zWr:Go.Sim.Obj:= .row [AV.agg [.d (.int .i64 0),.d (.int .i64 0),.d (.int .i64 0),.d (.int .i64 0),.d (.int .i64 0),.d (.int .i64 0),.d (.int .i64 0),.d (.int .i64 0),.xsl [],.xsl [],.d (.int .i64 0),.d (.int .i64 0),.xsl [],.d (.int .i64 0),.xsl [],.xsl [],.d (.int .i64 0),.d (.int .i64 0),.d (.int .i64 0),.xsl [],.xsl [],.d (.int .i64 0),.xsl []]]
def rnS(l:List Command)(p:Nat×World):St:=⟨[(1,.d (.sl (l.map zbf))),(4,.ref 4 0 0),(6,.ref 6 0 0),(8,.d (.int .i64 p.1))],[(4,zWr),(6,.row [.d (zM p.2)])]⟩
def rnR(r:World×Int):Option (zac×St):=if r.2=0 then some (.exit 0,⟨[(4,.ref 4 0 0),(6,.ref 6 0 0)],[(4,zWr),(6,.row [.d (zM r.1)])]⟩) else some (.ret,⟨[(4,.ref 4 0 0),(5,.d (.int .i64 r.2))],[(4,zWr)]⟩)
theorem z9B{K:Tok}{l:List Command}(P:Nat->World->Prop)(hl:l.length<=400)(hdo:∀k w,∀c∈l,k<l.length->P k w->zg G zf5 [.d (zM w),.d (zbf c)] []=some (.d (.tup [zM (doW K w c).1,.int .i64 (doW K w c).2]),[]))(hk:∀k w,∀c∈l,k<l.length->P k w->(doW K w c).2=0->P (k+1) (doW K w c).1):∀p:Nat×World,p.1<=l.length/\P p.1 p.2->zai G [] zBa (rnS l p)=rnR (zeV K (l.drop p.1) p.2):=by
 refine za3 (fun p:Nat×World=>l.length - p.1) _ _ _ fun⟨k,w⟩ ⟨h1,h2⟩ L ih=> ?_;simp only at h1 h2;simp only[rnS,zBa] at ih ⊢
 by_cases h0:k<l.length
 ·have hd:=hdo k w l[k] (zadf h0) h0 h2;have hke:=hk k w l[k] (zadf h0) h0 h2;have e1:l.drop k=l[k]::l.drop (k+1):=zady h0;rw[e1];unfold zeV;generalize doW K w l[k]=r at *;obtain⟨w2,e⟩:=r;simp only at *
  by_cases c:e=0
  ·subst c;have i1:=ih (k+1,w2) ⟨by simp only;omega,hke rfl⟩ (by simp only;omega);rw[zacX (by simp)];simp only at i1;clear ih hke hdo hk e1;generalize zeV K (l.drop (k+1)) w2=z at *;unfold rnR at *;have sz_w:=zbo w;generalize zM w=D_w at *;have sz_w2:=zbo w2;generalize zM w2=D_w2 at *;unfold zWr at *;simp only[zNr,zE] at i1;exact zS
  ·rw[zacY c];clear ih hke hdo hk e1;unfold rnR;rw[zacX c];replace c:=zac3 c;have sz_w:=zbo w;generalize zM w=D_w at *;have sz_w2:=zbo w2;generalize zM w2=D_w2 at *;unfold zWr at *;exact zS
 ·have e1:l.drop k=[]:=zafS zo;rw[e1];clear ih hdo hk e1;unfold zeV rnR;have sz_w:=zbo w;generalize zM w=D_w at *;unfold zWr at *;exact zS
theorem z9y{K:Tok}:∀(l:List Command) (w:World),(zeV K l w).2≠0->(zeV K l w).1=zbv:=by
 intro l
 induction l with
 | nil=>intro w h;exact absurd rfl h
 | cons c l ih=>
  intro w h;unfold zeV at h ⊢
  by_cases c1:(doW K w c).2=0
  ·rw[zacX (fun q=>q c1)] at h ⊢;exact ih _ h
  ·rw[zacY c1]
theorem z9w{K:Tok}{s:Setup}{l:List Command}(P:Nat->World->Prop)(hL:l.length<=400)(h0:(zdC s).2=0->P 0 (zdC s).1)(hdo:∀k w,∀c∈l,k<l.length->P k w->zg G zf5 [.d (zM w),.d (zbf c)] []=some (.d (.tup [zM (doW K w c).1,.int .i64 (doW K w c).2]),[]))(hk:∀k w,∀c∈l,k<l.length->P k w->(doW K w c).2=0->P (k+1) (doW K w c).1):zg G zl8 [.d (zK s),.d (.sl (l.map zbf))] []=some (.d (.tup [zM (zgW K s l).1,.int .i64 (zgW K s l).2]),[]):=by
 have hn:=zMF s;have e0:zgW K s l=if (zdC s).2≠0 then (zbv,(zdC s).2) else if 400<l.length then (zbv,2) else zeV K l (zdC s).1:=by
  unfold zgW zdC
  by_cases c:(zR s).2=0
  ·simp [c]
  ·simp [c]
 rw[e0];clear e0;have hz:zM zbv= .agg [.int .i64 0,.int .i64 0,.int .i64 0,.int .i64 0,.int .i64 0,.int .i64 0,.int .i64 0,.int .i64 0,.sl [],.sl [],.int .i64 0,.int .i64 0,.sl [],.int .i64 0,.sl [],.sl [],.int .i64 0,.int .i64 0,.int .i64 0,.sl [],.sl [],.int .i64 0,.sl []]:=rfl;generalize zdC s=r at *;obtain⟨w,e⟩:=r;simp only at *
 by_cases c:e=0
 ·subst c;rw[zacX (by simp)]
  by_cases c1:400<l.length
  ·omega
  ·rw[zacX c1];have h:=z9B P zo hdo hk (0,w) ⟨by simp,h0 rfl⟩;simp only[rnS,zadu,zado] at h;have hre:=z9y (K:=K) l w;clear h0 hdo hk;generalize zeV K l w=z at *;obtain⟨z,ze⟩:=z;unfold rnR zWr at h;simp only at *;have sz_w:=zbo w;generalize zM w=D_w at *
   by_cases c2:ze=0
   ·subst c2;rw[zacY rfl] at h;clear hz hre;have sz_z:=zbo z;generalize zM z=D_z at *;exact zW zzT
   ·rw[zacX c2] at h;rw[hre c2,hz];clear hz hre;replace c2:=zac3 c2;exact zW zzT
 ·rw[zacY c,hz];clear h0 hdo hk hz;replace c:=zac3 c;have sz_w:=zbo w;generalize zM w=D_w at *;exact zW zzT
theorem zUQ{K:Tok}{u:Setup}{w:World}{c:Command}(hw:WI u w)(hs:w.steps<=1000000)(hl:w.log.length<=1000000)(hk:c.kind=2):zg G zf5 [.d (zM w),.d (zbf c)] []=some (.d (.tup [zM (doW K w c).1,.int .i64 (doW K w c).2]),[]):=by
 have ht:=zabT w (zbH 0 (zgt c.by_ 255)) hw.ar.ck ⟨hw.st,hs⟩ hl;have hm:(if 0<(if 255<c.by_ then 255 else c.by_) then (if 255<c.by_ then 255 else c.by_) else 0)=zbH 0 (zgt c.by_ 255):=by
  unfold zbH zgt
  by_cases q1:c.by_<255<;>by_cases q2:255<c.by_<;>simp only[q1,q2,if_true,if_false]<;>split<;>omega
 unfold doW;generalize zbH 0 (zgt c.by_ 255)=m at *;rw[zacX zo,zacY hk];clear hw hs hl;generalize zep w m=r at *;obtain⟨r,e⟩:=r;simp only at *;obtain⟨k,pk,by_,iv,rf⟩:=c;simp only at *;subst hk;simp only[zbf]
 by_cases c:e=0
 ·subst c;rw[zacY rfl];have sz_r:=zbo r;generalize zM r=D_r at *;have sz_w:=zbo w;generalize zM w=D_w at *;exact zW zfz
 ·rw[zacX c];replace c:=zac3 c;have sz_r:=zbo r;generalize zM r=D_r at *;have sz_w:=zbo w;generalize zM w=D_w at *;exact zW zfz
theorem zUN{K:Tok}{w:World}{c:Command}(h1:¬c.kind=1)(h2:¬c.kind=2)(h3:¬c.kind=3):zg G zf5 [.d (zM w),.d (zbf c)] []=some (.d (.tup [zM (doW K w c).1,.int .i64 (doW K w c).2]),[]):=by
 unfold doW;rw[zacX h1,zacX h2,zacX h3];obtain⟨k,pk,by_,iv,rf⟩:=c;simp only at *;simp only[zbf];have sz_w:=zbo w;generalize zM w=D_w at *;exact zW zfz
theorem zUL{K:Tok}{w:World}{c:Command}(hl:w.tasks.length<=200)(hT:c.inv.tokens.length<=4294967296)(hB:c.inv.bodies.length<=4294967296)(hk:c.kind=3)(hr:c.refs=[]):zg G zf5 [.d (zM w),.d (zbf c)] []=some (.d (.tup [zM (doW K w c).1,.int .i64 (doW K w c).2]),[]):=by
 have h:=zL0 w hl hT hB;unfold doW;rw[zacX zo,zacX zo,zacY hk];have e0:¬(0<c.refs.length):=by rw[hr];simp
 simp only[zacX e0];clear e0 hT hB hl;obtain⟨k,pk,by_,iv,rf⟩:=c;simp only at *;subst hk hr;generalize zdg w iv=r at *;obtain⟨r,n,e⟩:=r;simp only at *;simp only[zbf,z9,zacZ] at *
 by_cases c:e=0
 ·subst c;rw[zacY rfl];have sz_r:=zbo r;generalize zM r=D_r at *;have sz_w:=zbo w;generalize zM w=D_w at *;exact zW zfz
 ·rw[zacX c];replace c:=zac3 c;have sz_r:=zbo r;generalize zM r=D_r at *;have sz_w:=zbo w;generalize zM w=D_w at *;exact zW zfz
end Go.Proofs.YtdnlddoeamjcoaaGreat
