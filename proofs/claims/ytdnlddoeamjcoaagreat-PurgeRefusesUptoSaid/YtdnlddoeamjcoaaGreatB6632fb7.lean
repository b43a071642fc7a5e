/-
  New arenas.
-/
import Derived.Test.YtdnlddoeamjcoaaGreatB842129c
import Derived.Test.YtdnlddoeamjcoaaGreatBfc2f73e
import Derived.Test.YtdnlddoeamjcoaaGreatBb26e286
set_option linter.unusedSimpArgs false
set_option linter.unusedVariables false
set_option maxHeartbeats 10000000
set_option maxRecDepth 100000
namespace Go.Proofs.YtdnlddoeamjcoaaGreat
open Go Go.Sim
theorem zUx{K:Tok}(hK:zcu K){u:Setup}{a:zy}{t:zq}{n N:Int}(hu:zJ u=true)(ha:AI u a)(ht:TI u N t)(hN:N<=999999)(hb:∀b∈t.inv.tokens,b.length<=4294967296)(d0:t.done=false)(k0:t.inv.kind=1):zg G zcP [.d (zi a),.d (zd t),.d (.int .i64 n)] []=some (.d (.tup [zi (zcY K a t n).1,zd (zcY K a t n).2.1,.sl ((zcY K a t n).2.2.1.map zad),.int .i64 (zcY K a t n).2.2.2]),[]):=by
 have h:=zaau (n:=n) hK hu ha ht hN;generalize zcY K a t n=r at *;obtain⟨r1,r2,r3,r4⟩:=r;clear hK ht ha hu hb;simp only at *;have sz_r1:=zaq r1;generalize zi r1=D_r1 at *;have sz_r2:=zA r2;generalize zd r2=D_r2 at *;obtain⟨nu,iv,t3,t4,t5,t6,t7,t8,t9,t10,t11,t12,t13,t14,t15,t16,t17,t18⟩:=t;obtain⟨v1,v2,v3,v4,v5,v6,v7,v8⟩:=iv;simp only at d0 k0;subst d0 k0;simp only[zd,z9] at *;exact zW zdR
theorem zUy{K:Tok}(hK:zcu K){u:Setup}{a:zy}{t:zq}{n N:Int}(hu:zJ u=true)(ha:AI u a)(ht:TI u N t)(hN:N<=999999)(hb:∀b∈t.inv.tokens,b.length<=4294967296)(d0:t.done=false)(k0:t.inv.kind=2):zg G zcP [.d (zi a),.d (zd t),.d (.int .i64 n)] []=some (.d (.tup [zi (zcU K a t n).1,zd (zcU K a t n).2.1,.sl ((zcU K a t n).2.2.1.map zad),.int .i64 (zcU K a t n).2.2.2]),[]):=by
 have h:=z8D (n:=n) hK hu ha ht hN;generalize zcU K a t n=r at *;obtain⟨r1,r2,r3,r4⟩:=r;clear hK ht ha hu hb;simp only at *;have sz_r1:=zaq r1;generalize zi r1=D_r1 at *;have sz_r2:=zA r2;generalize zd r2=D_r2 at *;obtain⟨nu,iv,t3,t4,t5,t6,t7,t8,t9,t10,t11,t12,t13,t14,t15,t16,t17,t18⟩:=t;obtain⟨v1,v2,v3,v4,v5,v6,v7,v8⟩:=iv;simp only at d0 k0;subst d0 k0;simp only[zd,z9] at *;exact zW zdR
theorem zUz{K:Tok}(hK:zcu K){u:Setup}{a:zy}{t:zq}{n N:Int}(hu:zJ u=true)(ha:AI u a)(ht:TI u N t)(hN:N<=999999)(hb:∀b∈t.inv.tokens,b.length<=4294967296)(d0:t.done=false)(k0:t.inv.kind=3):zg G zcP [.d (zi a),.d (zd t),.d (.int .i64 n)] []=some (.d (.tup [zi (zbS K a t n).1,zd (zbS K a t n).2.1,.sl ((zbS K a t n).2.2.1.map zad),.int .i64 (zbS K a t n).2.2.2]),[]):=by
 have h:=zCX (n:=n) hK hu ha ht hN hb;generalize zbS K a t n=r at *;obtain⟨r1,r2,r3,r4⟩:=r;clear hK ht ha hu hb;simp only at *;have sz_r1:=zaq r1;generalize zi r1=D_r1 at *;have sz_r2:=zA r2;generalize zd r2=D_r2 at *;obtain⟨nu,iv,t3,t4,t5,t6,t7,t8,t9,t10,t11,t12,t13,t14,t15,t16,t17,t18⟩:=t;obtain⟨v1,v2,v3,v4,v5,v6,v7,v8⟩:=iv;simp only at d0 k0;subst d0 k0;simp only[zd,z9] at *;exact zW zdR
theorem zUA{K:Tok}(hK:zcu K){u:Setup}{a:zy}{t:zq}{n N:Int}(hu:zJ u=true)(ha:AI u a)(ht:TI u N t)(hN:N<=999999)(hb:∀b∈t.inv.tokens,b.length<=4294967296)(d0:t.done=false)(k0:t.inv.kind=4):zg G zcP [.d (zi a),.d (zd t),.d (.int .i64 n)] []=some (.d (.tup [zi (zbS K a t n).1,zd (zbS K a t n).2.1,.sl ((zbS K a t n).2.2.1.map zad),.int .i64 (zbS K a t n).2.2.2]),[]):=by
 have h:=zCX (n:=n) hK hu ha ht hN hb;generalize zbS K a t n=r at *;obtain⟨r1,r2,r3,r4⟩:=r;clear hK ht ha hu hb;simp only at *;have sz_r1:=zaq r1;generalize zi r1=D_r1 at *;have sz_r2:=zA r2;generalize zd r2=D_r2 at *;obtain⟨nu,iv,t3,t4,t5,t6,t7,t8,t9,t10,t11,t12,t13,t14,t15,t16,t17,t18⟩:=t;obtain⟨v1,v2,v3,v4,v5,v6,v7,v8⟩:=iv;simp only at d0 k0;subst d0 k0;simp only[zd,z9] at *;exact zW zdR
theorem zUB{K:Tok}(hK:zcu K){u:Setup}{a:zy}{t:zq}{n N:Int}(hu:zJ u=true)(ha:AI u a)(ht:TI u N t)(hN:N<=999999)(hb:∀b∈t.inv.tokens,b.length<=4294967296)(d0:t.done=false)(k0:t.inv.kind=5):zg G zcP [.d (zi a),.d (zd t),.d (.int .i64 n)] []=some (.d (.tup [zi (zbS K a t n).1,zd (zbS K a t n).2.1,.sl ((zbS K a t n).2.2.1.map zad),.int .i64 (zbS K a t n).2.2.2]),[]):=by
 have h:=zCX (n:=n) hK hu ha ht hN hb;generalize zbS K a t n=r at *;obtain⟨r1,r2,r3,r4⟩:=r;clear hK ht ha hu hb;simp only at *;have sz_r1:=zaq r1;generalize zi r1=D_r1 at *;have sz_r2:=zA r2;generalize zd r2=D_r2 at *;obtain⟨nu,iv,t3,t4,t5,t6,t7,t8,t9,t10,t11,t12,t13,t14,t15,t16,t17,t18⟩:=t;obtain⟨v1,v2,v3,v4,v5,v6,v7,v8⟩:=iv;simp only at d0 k0;subst d0 k0;simp only[zd,z9] at *;exact zW zdR
theorem zUE{K:Tok}(hK:zcu K){u:Setup}{a:zy}{t:zq}{n N:Int}(hu:zJ u=true)(ha:AI u a)(ht:TI u N t)(hN:N<=999999)(hb:∀b∈t.inv.tokens,b.length<=4294967296)(d0:t.done=false)(k0:t.inv.kind=8):zg G zcP [.d (zi a),.d (zd t),.d (.int .i64 n)] []=some (.d (.tup [zi (zcV a t n).1,zd (zcV a t n).2.1,.sl ((zcV a t n).2.2.1.map zad),.int .i64 (zcV a t n).2.2.2]),[]):=by
 have h:=z8L (n:=n) hu ha ht hN;generalize zcV a t n=r at *;obtain⟨r1,r2,r3,r4⟩:=r;clear hK ht ha hu hb;simp only at *;have sz_r1:=zaq r1;generalize zi r1=D_r1 at *;have sz_r2:=zA r2;generalize zd r2=D_r2 at *;obtain⟨nu,iv,t3,t4,t5,t6,t7,t8,t9,t10,t11,t12,t13,t14,t15,t16,t17,t18⟩:=t;obtain⟨v1,v2,v3,v4,v5,v6,v7,v8⟩:=iv;simp only at d0 k0;subst d0 k0;simp only[zd,z9] at *;exact zW zdR
theorem zUC{K:Tok}(hK:zcu K){u:Setup}{a:zy}{t:zq}{n N:Int}(hu:zJ u=true)(ha:AI u a)(ht:TI u N t)(hN:N<=999999)(hb:∀b∈t.inv.tokens,b.length<=4294967296)(d0:t.done=false)(k0:t.inv.kind=6):zg G zcP [.d (zi a),.d (zd t),.d (.int .i64 n)] []=some (.d (.tup [zi (zb9 a t n).1,zd (zb9 a t n).2.1,.sl ((zb9 a t n).2.2.1.map zad),.int .i64 (zb9 a t n).2.2.2]),[]):=by
 have h:=z6U a t n (zfY ht d0).1 (zfY ht d0).2 ht.ld;generalize zb9 a t n=r at *;obtain⟨r1,r2,r3,r4⟩:=r;clear hK ht ha hu hb;simp only at *;have sz_r1:=zaq r1;generalize zi r1=D_r1 at *;have sz_r2:=zA r2;generalize zd r2=D_r2 at *;obtain⟨nu,iv,t3,t4,t5,t6,t7,t8,t9,t10,t11,t12,t13,t14,t15,t16,t17,t18⟩:=t;obtain⟨v1,v2,v3,v4,v5,v6,v7,v8⟩:=iv;simp only at d0 k0;subst d0 k0;simp only[zd,z9] at *;exact zW zdR
theorem zUD{K:Tok}(hK:zcu K){u:Setup}{a:zy}{t:zq}{n N:Int}(hu:zJ u=true)(ha:AI u a)(ht:TI u N t)(hN:N<=999999)(hb:∀b∈t.inv.tokens,b.length<=4294967296)(d0:t.done=false)(k0:t.inv.kind=7):zg G zcP [.d (zi a),.d (zd t),.d (.int .i64 n)] []=some (.d (.tup [zi (zcS a t n).1,zd (zcS a t n).2.1,.sl ((zcS a t n).2.2.1.map zad),.int .i64 (zcS a t n).2.2.2]),[]):=by
 have h:=zTO (n:=n) hu ha ht;generalize zcS a t n=r at *;obtain⟨r1,r2,r3,r4⟩:=r;clear hK ht ha hu hb;simp only at *;have sz_r1:=zaq r1;generalize zi r1=D_r1 at *;have sz_r2:=zA r2;generalize zd r2=D_r2 at *;obtain⟨nu,iv,t3,t4,t5,t6,t7,t8,t9,t10,t11,t12,t13,t14,t15,t16,t17,t18⟩:=t;obtain⟨v1,v2,v3,v4,v5,v6,v7,v8⟩:=iv;simp only at d0 k0;subst d0 k0;simp only[zd,z9] at *;exact zW zdR
theorem zUF{K:Tok}(hK:zcu K){u:Setup}{a:zy}{t:zq}{n N:Int}(hu:zJ u=true)(ha:AI u a)(ht:TI u N t)(hN:N<=999999)(hb:∀b∈t.inv.tokens,b.length<=4294967296)(d0:t.done=false)(k0:t.inv.kind=9):zg G zcP [.d (zi a),.d (zd t),.d (.int .i64 n)] []=some (.d (.tup [zi (z7 zb2 9 9 za7 a t n).1,zd (z7 zb2 9 9 za7 a t n).2.1,.sl ((z7 zb2 9 9 za7 a t n).2.2.1.map zad),.int .i64 (z7 zb2 9 9 za7 a t n).2.2.2]),[]):=by
 have h:=z6Q (n:=n) hu ha ht hN;generalize z7 zb2 9 9 za7 a t n=r at *;obtain⟨r1,r2,r3,r4⟩:=r;clear hK ht ha hu hb;simp only at *;have sz_r1:=zaq r1;generalize zi r1=D_r1 at *;have sz_r2:=zA r2;generalize zd r2=D_r2 at *;obtain⟨nu,iv,t3,t4,t5,t6,t7,t8,t9,t10,t11,t12,t13,t14,t15,t16,t17,t18⟩:=t;obtain⟨v1,v2,v3,v4,v5,v6,v7,v8⟩:=iv;simp only at d0 k0;subst d0 k0;simp only[zd,z9] at *;exact zW zdR
theorem zUs{K:Tok}(hK:zcu K){u:Setup}{a:zy}{t:zq}{n N:Int}(hu:zJ u=true)(ha:AI u a)(ht:TI u N t)(hN:N<=999999)(hb:∀b∈t.inv.tokens,b.length<=4294967296)(d0:t.done=false)(k0:t.inv.kind=10):zg G zcP [.d (zi a),.d (zd t),.d (.int .i64 n)] []=some (.d (.tup [zi (z7 zb1 10 10 za7 a t n).1,zd (z7 zb1 10 10 za7 a t n).2.1,.sl ((z7 zb1 10 10 za7 a t n).2.2.1.map zad),.int .i64 (z7 zb1 10 10 za7 a t n).2.2.2]),[]):=by
 have h:=z6R (n:=n) hu ha ht hN;generalize z7 zb1 10 10 za7 a t n=r at *;obtain⟨r1,r2,r3,r4⟩:=r;clear hK ht ha hu hb;simp only at *;have sz_r1:=zaq r1;generalize zi r1=D_r1 at *;have sz_r2:=zA r2;generalize zd r2=D_r2 at *;obtain⟨nu,iv,t3,t4,t5,t6,t7,t8,t9,t10,t11,t12,t13,t14,t15,t16,t17,t18⟩:=t;obtain⟨v1,v2,v3,v4,v5,v6,v7,v8⟩:=iv;simp only at d0 k0;subst d0 k0;simp only[zd,z9] at *;exact zW zdR
theorem zUt{K:Tok}(hK:zcu K){u:Setup}{a:zy}{t:zq}{n N:Int}(hu:zJ u=true)(ha:AI u a)(ht:TI u N t)(hN:N<=999999)(hb:∀b∈t.inv.tokens,b.length<=4294967296)(d0:t.done=false)(k0:t.inv.kind=11):zg G zcP [.d (zi a),.d (zd t),.d (.int .i64 n)] []=some (.d (.tup [zi (z7 zbX 11 11 za7 a t n).1,zd (z7 zbX 11 11 za7 a t n).2.1,.sl ((z7 zbX 11 11 za7 a t n).2.2.1.map zad),.int .i64 (z7 zbX 11 11 za7 a t n).2.2.2]),[]):=by
 have h:=z6S (n:=n) hu ha ht hN;generalize z7 zbX 11 11 za7 a t n=r at *;obtain⟨r1,r2,r3,r4⟩:=r;clear hK ht ha hu hb;simp only at *;have sz_r1:=zaq r1;generalize zi r1=D_r1 at *;have sz_r2:=zA r2;generalize zd r2=D_r2 at *;obtain⟨nu,iv,t3,t4,t5,t6,t7,t8,t9,t10,t11,t12,t13,t14,t15,t16,t17,t18⟩:=t;obtain⟨v1,v2,v3,v4,v5,v6,v7,v8⟩:=iv;simp only at d0 k0;subst d0 k0;simp only[zd,z9] at *;exact zW zdR
theorem zUu{K:Tok}(hK:zcu K){u:Setup}{a:zy}{t:zq}{n N:Int}(hu:zJ u=true)(ha:AI u a)(ht:TI u N t)(hN:N<=999999)(hb:∀b∈t.inv.tokens,b.length<=4294967296)(d0:t.done=false)(k0:t.inv.kind=12):zg G zcP [.d (zi a),.d (zd t),.d (.int .i64 n)] []=some (.d (.tup [zi (z7 zbx 12 13 (fun t=>[t.inv.from_]) a t n).1,zd (z7 zbx 12 13 (fun t=>[t.inv.from_]) a t n).2.1,.sl ((z7 zbx 12 13 (fun t=>[t.inv.from_]) a t n).2.2.1.map zad),.int .i64 (z7 zbx 12 13 (fun t=>[t.inv.from_]) a t n).2.2.2]),[]):=by
 have h:=zNb (n:=n) hu ha ht hN;generalize z7 zbx 12 13 (fun t=>[t.inv.from_]) a t n=r at *;obtain⟨r1,r2,r3,r4⟩:=r;clear hK ht ha hu hb;simp only at *;have sz_r1:=zaq r1;generalize zi r1=D_r1 at *;have sz_r2:=zA r2;generalize zd r2=D_r2 at *;obtain⟨nu,iv,t3,t4,t5,t6,t7,t8,t9,t10,t11,t12,t13,t14,t15,t16,t17,t18⟩:=t;obtain⟨v1,v2,v3,v4,v5,v6,v7,v8⟩:=iv;simp only at d0 k0;subst d0 k0;simp only[zd,z9] at *;exact zW zdR
theorem zUv{K:Tok}(hK:zcu K){u:Setup}{a:zy}{t:zq}{n N:Int}(hu:zJ u=true)(ha:AI u a)(ht:TI u N t)(hN:N<=999999)(hb:∀b∈t.inv.tokens,b.length<=4294967296)(d0:t.done=false)(k0:t.inv.kind=13):zg G zcP [.d (zi a),.d (zd t),.d (.int .i64 n)] []=some (.d (.tup [zi (z7 zbx 12 13 (fun t=>[t.inv.from_]) a t n).1,zd (z7 zbx 12 13 (fun t=>[t.inv.from_]) a t n).2.1,.sl ((z7 zbx 12 13 (fun t=>[t.inv.from_]) a t n).2.2.1.map zad),.int .i64 (z7 zbx 12 13 (fun t=>[t.inv.from_]) a t n).2.2.2]),[]):=by
 have h:=zNb (n:=n) hu ha ht hN;generalize z7 zbx 12 13 (fun t=>[t.inv.from_]) a t n=r at *;obtain⟨r1,r2,r3,r4⟩:=r;clear hK ht ha hu hb;simp only at *;have sz_r1:=zaq r1;generalize zi r1=D_r1 at *;have sz_r2:=zA r2;generalize zd r2=D_r2 at *;obtain⟨nu,iv,t3,t4,t5,t6,t7,t8,t9,t10,t11,t12,t13,t14,t15,t16,t17,t18⟩:=t;obtain⟨v1,v2,v3,v4,v5,v6,v7,v8⟩:=iv;simp only at d0 k0;subst d0 k0;simp only[zd,z9] at *;exact zW zdR
theorem zUw{K:Tok}(hK:zcu K){u:Setup}{a:zy}{t:zq}{n N:Int}(hu:zJ u=true)(ha:AI u a)(ht:TI u N t)(hN:N<=999999)(hb:∀b∈t.inv.tokens,b.length<=4294967296)(d0:t.done=false)(k0:t.inv.kind=14):zg G zcP [.d (zi a),.d (zd t),.d (.int .i64 n)] []=some (.d (.tup [zi (z7 zbT 14 14 (fun t=>[t.inv.from_,t.setup.slots]) a t n).1,zd (z7 zbT 14 14 (fun t=>[t.inv.from_,t.setup.slots]) a t n).2.1,.sl ((z7 zbT 14 14 (fun t=>[t.inv.from_,t.setup.slots]) a t n).2.2.1.map zad),.int .i64 (z7 zbT 14 14 (fun t=>[t.inv.from_,t.setup.slots]) a t n).2.2.2]),[]):=by
 have h:=z6T (n:=n) hu ha ht hN;generalize z7 zbT 14 14 (fun t=>[t.inv.from_,t.setup.slots]) a t n=r at *;obtain⟨r1,r2,r3,r4⟩:=r;clear hK ht ha hu hb;simp only at *;have sz_r1:=zaq r1;generalize zi r1=D_r1 at *;have sz_r2:=zA r2;generalize zd r2=D_r2 at *;obtain⟨nu,iv,t3,t4,t5,t6,t7,t8,t9,t10,t11,t12,t13,t14,t15,t16,t17,t18⟩:=t;obtain⟨v1,v2,v3,v4,v5,v6,v7,v8⟩:=iv;simp only at d0 k0;subst d0 k0;simp only[zd,z9] at *;exact zW zdR
theorem zUG{a:zy}{t:zq}{n:Int}(d0:t.done=true):zg G zcP [.d (zi a),.d (zd t),.d (.int .i64 n)] []=some (.d (.tup [zi (zaT 7).1,zd (zaT 7).2.1,.sl ((zaT 7).2.2.1.map zad),.int .i64 (zaT 7).2.2.2]),[]):=by
 have hf:=zbN 7;unfold zaT;have sz_zTask:=zA zD;generalize zd zD=D_zTask at *;have sz_zArena:=zaq zF;generalize zi zF=D_zArena at *;obtain⟨nu,iv,t3,t4,t5,t6,t7,t8,t9,t10,t11,t12,t13,t14,t15,t16,t17,t18⟩:=t;simp only at d0;subst d0;simp only[zd] at *;exact zW zdR
theorem zUH{a:zy}{t:zq}{n:Int}(d0:t.done=false)(c1:¬t.inv.kind=1)(c2:¬t.inv.kind=2)(c3:¬(3<=t.inv.kind/\t.inv.kind<=5))(c4:¬t.inv.kind=6)(c5:¬t.inv.kind=7)(c6:¬t.inv.kind=8)(c7:¬t.inv.kind=9)(c8:¬t.inv.kind=10)(c9:¬t.inv.kind=11)(c10:¬(t.inv.kind=12\/t.inv.kind=13))(c11:¬t.inv.kind=14):zg G zcP [.d (zi a),.d (zd t),.d (.int .i64 n)] []=some (.d (.tup [zi (zaT 9).1,zd (zaT 9).2.1,.sl ((zaT 9).2.2.1.map zad),.int .i64 (zaT 9).2.2.2]),[]):=by
 have hf:=zbN 9;unfold zaT;have sz_zTask:=zA zD;generalize zd zD=D_zTask at *;have sz_zArena:=zaq zF;generalize zi zF=D_zArena at *;obtain⟨nu,iv,t3,t4,t5,t6,t7,t8,t9,t10,t11,t12,t13,t14,t15,t16,t17,t18⟩:=t;obtain⟨v1,v2,v3,v4,v5,v6,v7,v8⟩:=iv;simp only at *;subst d0;have k3:¬v1=3:=by omega
 have k4:¬v1=4:=by omega
 have k5:¬v1=5:=by omega
 have k12:¬v1=12:=by omega
 have k13:¬v1=13:=by omega
 clear c3 c10;simp only[zd,z9] at *;exact zW zdR
theorem zabN{K:Tok}(hK:zcu K){u:Setup}{a:zy}{t:zq}{n N:Int}(hu:zJ u=true)(ha:AI u a)(ht:TI u N t)(hN:N<=999999)(hb:∀b∈t.inv.tokens,b.length<=4294967296):zg G zcP [.d (zi a),.d (zd t),.d (.int .i64 n)] []=some (.d (.tup [zi (zcn K a t n).1,zd (zcn K a t n).2.1,.sl ((zcn K a t n).2.2.1.map zad),.int .i64 (zcn K a t n).2.2.2]),[]):=by
 unfold zcn
 by_cases c0:t.done=true
 ·rw[zacY c0];exact zUG c0
 rw[zacX c0];have d0:t.done=false:=by simpa using c0
 by_cases k1:t.inv.kind=1
 ·rw[zacY k1];exact zUx hK hu ha ht hN hb d0 k1
 rw[zacX k1]
 by_cases k2:t.inv.kind=2
 ·rw[zacY k2];exact zUy hK hu ha ht hN hb d0 k2
 rw[zacX k2]
 by_cases k3:3<=t.inv.kind/\t.inv.kind<=5
 ·rw[zacY k3];have q:t.inv.kind=3\/t.inv.kind=4\/t.inv.kind=5:=by omega
  rcases q with q|q|q
  ·exact zUz hK hu ha ht hN hb d0 q
  ·exact zUA hK hu ha ht hN hb d0 q
  ·exact zUB hK hu ha ht hN hb d0 q
 rw[zacX k3]
 by_cases k4:t.inv.kind=6
 ·rw[zacY k4];exact zUC hK hu ha ht hN hb d0 k4
 rw[zacX k4]
 by_cases k5:t.inv.kind=7
 ·rw[zacY k5];exact zUD hK hu ha ht hN hb d0 k5
 rw[zacX k5]
 by_cases k6:t.inv.kind=8
 ·rw[zacY k6];exact zUE hK hu ha ht hN hb d0 k6
 rw[zacX k6]
 by_cases k7:t.inv.kind=9
 ·rw[zacY k7];exact zUF hK hu ha ht hN hb d0 k7
 rw[zacX k7]
 by_cases k8:t.inv.kind=10
 ·rw[zacY k8];exact zUs hK hu ha ht hN hb d0 k8
 rw[zacX k8]
 by_cases k9:t.inv.kind=11
 ·rw[zacY k9];exact zUt hK hu ha ht hN hb d0 k9
 rw[zacX k9]
 by_cases k10:t.inv.kind=12\/t.inv.kind=13
 ·rw[zacY k10]
  rcases k10 with q|q
  ·exact zUu hK hu ha ht hN hb d0 q
  ·exact zUv hK hu ha ht hN hb d0 q
 rw[zacX k10]
 by_cases k11:t.inv.kind=14
 ·rw[zacY k11];exact zUw hK hu ha ht hN hb d0 k11
 rw[zacX k11];exact zUH d0 k1 k2 k3 k4 k5 k6 k7 k8 k9 k10 k11
theorem zTj(b:List UInt8)(hb:b.length<=100):∃h:Int,0<=h/\h<=4294967295/\zg G zod [.d (.sl (byD b))] []=some (.d (.int .i64 h),[]):=by
 obtain⟨h,g0,g1,hs⟩:=zQ0 (90::b) (by simp;omega);refine⟨h,g0,g1,?_⟩;have hlen:(byD b).length=b.length:=by unfold byD;simp
 have hS:=byS b;have hc:byD (90::b)= .int .u8 90::byD b:=rfl;rw[hc] at hs;generalize byD b=bb at *
 rcases bb with _|⟨x,bb⟩
 ·exact zW zIf
 ·exact zW zIf
theorem zHF(h:zbk)(q:¬(1<=h.id/\h.id<=1073741824/\1<=h.gen/\h.gen<=65536/\0<=h.route/\h.route<65536/\0<=h.hint/\h.hint<6)):zg G ziO [.d (zaH h)] []=some (.d (.tup [zaR [],.int .i64 1]),[]):=by
 have e:byD []=[]:=rfl;unfold zaR;rw[e];obtain⟨a,b,c,d⟩:=h;simp only[zaH] at *
 by_cases c1:a<1
 ·clear q;exact zW zhf
 by_cases c2:1073741824<a
 ·clear q;exact zW zhf
 by_cases c3:b<1
 ·clear q;exact zW zhf
 by_cases c4:65536<b
 ·clear q;exact zW zhf
 by_cases c5:c<0
 ·clear q;exact zW zhf
 by_cases c6:65536<=c
 ·clear q;exact zW zhf
 by_cases c7:d<0
 ·clear q;exact zW zhf
 by_cases c8:6<=d
 ·clear q;exact zW zhf
 ·omega
theorem zHG(h:zbk)(q:1<=h.id/\h.id<=1073741824/\1<=h.gen/\h.gen<=65536/\0<=h.route/\h.route<65536/\0<=h.hint/\h.hint<6):∃c:List UInt8,c.length=16/\zg G ziO [.d (zaH h)] []=some (.d (.tup [zaR c,.int .i64 0]),[]):=by
 obtain⟨a,b,c,d⟩:=h;obtain⟨a1,a2,b1,b2,c1,c2,d1,d2⟩:=q;simp only at a1 a2 b1 b2 c1 c2 d1 d2;obtain⟨x1,l1,p1⟩:=zBV [113] (by simp) a zo zo;obtain⟨x2,l2,p2⟩:=z63 ([113]++x1) (by simp;omega) b zo zo;obtain⟨x3,l3,p3⟩:=z62 ([113]++x1++x2) (by simp;omega) c zo zo;obtain⟨u,hu⟩:=zgZ d;obtain⟨k,k0,k1,hk⟩:=zTj ([113]++x1++x2++x3++[u,0]) (by simp;omega);obtain⟨x4,l4,p4⟩:=zBV ([113]++x1++x2++x3++[u,0]) (by simp;omega) k k0 k1;refine⟨[113]++x1++x2++x3++[u,0]++x4,by simp;omega,?_⟩;have hb:∀x y:List UInt8,byD (x++y)=byD x++byD y:=fun x y=>by unfold byD;simp
 have e1:byD [113]=[.int .u8 113]:=rfl;have e2:byD [u,0]=[.int .u8 u.toNat,.int .u8 0]:=rfl;have hl:∀x:List UInt8,(byD x).length=x.length:=fun x=>by unfold byD;simp
 unfold zaR;simp only[hb,e1,e2] at *;have y1:=hl x1;have y2:=hl x2;have y3:=hl x3;have y4:=hl x4;have z1:=byS x1;have z2:=byS x2;have z3:=byS x3;have z4:=byS x4;rw[l1] at y1;rw[l2] at y2;rw[l3] at y3;rw[l4] at y4;simp only[zac6,zac4,zac5,l1,l2,l3,Nat.reduceAdd] at p1 p2 p3 p4;clear hb hl e1 e2;generalize byD x1=w1 at *;generalize byD x2=w2 at *;generalize byD x3=w3 at *;generalize byD x4=w4 at *;simp only[zaH,zadl,zadi,zadK] at *;have hA:∀z:List D,w1++(w2++(w3++z))=w1++(w2++w3)++z:=fun z=>by simp
 rw[hA] at hk;rw[hA] at p4;exact zW zhf
theorem zr4(b:List UInt8)(hb:b.length=16)(i k:Int)(q:(i=1/\k=4)\/(i=5/\k=3)\/(i=8/\k=2)\/(i=10/\k=1)):∃v:Int,zg G zob [.d (.sl (byD b)),.d (.int .i64 i),.d (.int .i64 k)] []=some (.d (.tup [.int .i64 v,.int .i64 0]),[]):=by
 have hlen:(byD b).length=16:=by unfold byD;simp [hb]
 have hg:∀j:Nat,j<16->∃x:UInt8,(byD b)[j]? = some (.int .u8 x.toNat):=fun j hj=>⟨b[j],by unfold byD;simp [zada (show j<b.length by omega)]⟩;obtain⟨x1,g1⟩:=hg 1 zo;obtain⟨x2,g2⟩:=hg 2 zo;obtain⟨x3,g3⟩:=hg 3 zo;obtain⟨x4,g4⟩:=hg 4 zo;obtain⟨x5,g5⟩:=hg 5 zo;obtain⟨x6,g6⟩:=hg 6 zo;obtain⟨x7,g7⟩:=hg 7 zo;obtain⟨x8,g8⟩:=hg 8 zo;obtain⟨x9,g9⟩:=hg 9 zo;obtain⟨xa,ga⟩:=hg 10 zo;clear hg;generalize byD b=bb at *
 rcases q with ⟨rfl,rfl⟩|⟨rfl,rfl⟩|⟨rfl,rfl⟩|⟨rfl,rfl⟩
 ·rw[zO zrJ (by simp)];simp -implicitDefEqProofs (maxSteps:=4000000) (disch:=omega) only[zj3,zlb,za2,zhn,zj,go_sem, *];(try simp only[zPr]);repeat' (first|done|rfl|((first|refine zay (fun hq=> ?_) (fun hq=> ?_)|refine zaD (fun hq=> ?_) (fun hq=> ?_))<;>(try (first|(exfalso;omega)|contradiction))<;>(try simp -implicitDefEqProofs (maxSteps:=4000000) (disch:=omega) only[za2,zhn,zj,go_sem, *])<;>(try simp only[zPr])));(all_goals try rfl);(all_goals try (repeat' (first|done|rfl|(exfalso;omega)|contradiction|(refine zaz (fun hq=> ?_) (fun hq=> ?_)))))
  all_goals exact⟨_,rfl⟩
 ·rw[zO zrJ (by simp)];simp -implicitDefEqProofs (maxSteps:=4000000) (disch:=omega) only[zj3,zlb,za2,zhn,zj,go_sem, *];(try simp only[zPr]);repeat' (first|done|rfl|((first|refine zay (fun hq=> ?_) (fun hq=> ?_)|refine zaD (fun hq=> ?_) (fun hq=> ?_))<;>(try (first|(exfalso;omega)|contradiction))<;>(try simp -implicitDefEqProofs (maxSteps:=4000000) (disch:=omega) only[za2,zhn,zj,go_sem, *])<;>(try simp only[zPr])));(all_goals try rfl);(all_goals try (repeat' (first|done|rfl|(exfalso;omega)|contradiction|(refine zaz (fun hq=> ?_) (fun hq=> ?_)))))
  all_goals exact⟨_,rfl⟩
 ·rw[zO zrJ (by simp)];simp -implicitDefEqProofs (maxSteps:=4000000) (disch:=omega) only[zj3,zlb,za2,zhn,zj,go_sem, *];(try simp only[zPr]);repeat' (first|done|rfl|((first|refine zay (fun hq=> ?_) (fun hq=> ?_)|refine zaD (fun hq=> ?_) (fun hq=> ?_))<;>(try (first|(exfalso;omega)|contradiction))<;>(try simp -implicitDefEqProofs (maxSteps:=4000000) (disch:=omega) only[za2,zhn,zj,go_sem, *])<;>(try simp only[zPr])));(all_goals try rfl);(all_goals try (repeat' (first|done|rfl|(exfalso;omega)|contradiction|(refine zaz (fun hq=> ?_) (fun hq=> ?_)))))
  all_goals exact⟨_,rfl⟩
 ·rw[zO zrJ (by simp)];simp -implicitDefEqProofs (maxSteps:=4000000) (disch:=omega) only[zj3,zlb,za2,zhn,zj,go_sem, *];(try simp only[zPr]);repeat' (first|done|rfl|((first|refine zay (fun hq=> ?_) (fun hq=> ?_)|refine zaD (fun hq=> ?_) (fun hq=> ?_))<;>(try (first|(exfalso;omega)|contradiction))<;>(try simp -implicitDefEqProofs (maxSteps:=4000000) (disch:=omega) only[za2,zhn,zj,go_sem, *])<;>(try simp only[zPr])));(all_goals try rfl);(all_goals try (repeat' (first|done|rfl|(exfalso;omega)|contradiction|(refine zaz (fun hq=> ?_) (fun hq=> ?_)))))
  all_goals exact⟨_,rfl⟩
theorem zaaa(a b:List UInt8)(ha:a.length=16)(hb:b.length=16):∃x:Bool,zg G zoc [.d (.sl (byD a)),.d (.sl (byD b))] []=some (.d (.bool x),[]):=by
 have hla:(byD a).length=16:=by unfold byD;simp [ha]
 have hlb:(byD b).length=16:=by unfold byD;simp [hb]
 have za:=byS a;have zb:=byS b;have ya:=_root_.Go.Proofs.YtdnlddoeamjcoaaGreat.bytesD_ok a;have yb:=_root_.Go.Proofs.YtdnlddoeamjcoaaGreat.bytesD_ok b;generalize byD a=aa at *;generalize byD b=bb at *;rw[zO zXp (by simp)];simp -implicitDefEqProofs (maxSteps:=4000000) (disch:=omega) only[zuC,zB9,zj,go_sem, *];(try simp only[zPr]);repeat' (first|done|rfl|((first|refine zay (fun hq=> ?_) (fun hq=> ?_)|refine zaD (fun hq=> ?_) (fun hq=> ?_))<;>(try (first|(exfalso;omega)|contradiction))<;>(try simp -implicitDefEqProofs (maxSteps:=4000000) (disch:=omega) only[zj,go_sem, *])<;>(try simp only[zPr])));(all_goals try rfl);(all_goals try (repeat' (first|done|rfl|(exfalso;omega)|contradiction|(refine zaz (fun hq=> ?_) (fun hq=> ?_)))))
 all_goals exact⟨_,rfl⟩
theorem z6m(b:List UInt8)(hb:b.length<=4294967296):∃(h:zbk) (e:Int),(e=0->((0<=h.route/\h.route<65536)/\0<=h.hint)/\b.length=16/\1<=h.gen/\h.gen<=65536)/\zg G zjR [.d (zaR b)] []=some (.d (.tup [zaH h,.int .i64 e]),[]):=by
 have hlen:(byD b).length=b.length:=by unfold byD;simp
 by_cases c:b.length=16
 ·obtain⟨v1,g1⟩:=zr4 b c 1 4 zo;obtain⟨v2,g2⟩:=zr4 b c 5 3 zo;obtain⟨v3,g3⟩:=zr4 b c 8 2 zo;obtain⟨v4,g4⟩:=zr4 b c 10 1 zo;rw[c] at hlen;unfold zaR
  by_cases q:1<=v1/\v1<=1073741824/\1<=v2/\v2<=65536/\0<=v3/\v3<65536/\0<=v4/\v4<6
  ·obtain⟨x,lx,hx⟩:=zHG ⟨v1,v2,v3,v4⟩ q;obtain⟨s,hs⟩:=zaaa x b lx c;simp only[zaH,zaR] at hx
   rcases s with _|_
   ·refine⟨zdo,8,fun q=>by omega,?_⟩;simp only[zaH,zdo];generalize byD b=bb at *;generalize byD x=bx at *;clear c hb q;exact zW zrU
   ·refine⟨⟨v1,v2,v3,v4⟩,0,fun _=>⟨⟨⟨q.2.2.2.2.1,q.2.2.2.2.2.1⟩,q.2.2.2.2.2.2.1⟩,c,q.2.2.1,q.2.2.2.1⟩,?_⟩;simp only[zaH];generalize byD b=bb at *;generalize byD x=bx at *;clear c hb q;exact zW zrU
  ·have hx:=zHF ⟨v1,v2,v3,v4⟩ q;have e:byD []=[]:=rfl;simp only[zaH,zaR,e] at hx;refine⟨zdo,8,fun q=>by omega,?_⟩;simp only[zaH,zdo];generalize byD b=bb at *;clear c hb q;exact zW zrU
 ·refine⟨zdo,8,fun q=>by omega,?_⟩;have hc:¬(b.length:Int)=16:=by omega
  simp only[zaH,zdo,zaR];generalize byD b=bb at *;exact zW zrU
theorem zvw(h:zbk):∃p:List UInt8×Int,p.1.length<=16/\zg G ziO [.d (zaH h)] []=some (.d (.tup [zaR p.1,.int .i64 p.2]),[]):=by
 by_cases q:1<=h.id/\h.id<=1073741824/\1<=h.gen/\h.gen<=65536/\0<=h.route/\h.route<65536/\0<=h.hint/\h.hint<6
 ·obtain⟨c,l,e⟩:=zHG h q;exact⟨(c,0),by simp only;omega,e⟩
 ·exact⟨([],1),by simp,zHF h q⟩
theorem zs3(b:List UInt8):∃p:zbk×Int,(p.2=0->((0<=p.1.route/\p.1.route<65536)/\0<=p.1.hint)/\b.length=16/\1<=p.1.gen/\p.1.gen<=65536)/\(b.length<=4294967296->zg G zjR [.d (zaR b)] []=some (.d (.tup [zaH p.1,.int .i64 p.2]),[])):=by
 by_cases c:b.length<=4294967296
 ·obtain⟨h,e,q,r⟩:=z6m b c;exact⟨(h,e),q,fun _=>r⟩
 ·exact⟨(zdo,8),fun q=>by simp at q,fun q=>absurd q c⟩
noncomputable def zaS:Tok:=⟨fun i=>Classical.choose (ztJ i),fun h=>Classical.choose (zvw h),fun b=>Classical.choose (zs3 b)⟩
theorem zlv:zcu zaS:=by
 refine⟨⟨fun i=> ?_,fun b=> ?_⟩,fun i=> ?_,fun h=> ?_,fun b hb=> ?_⟩
 ·exact⟨(zadS (ztJ i)).1,(zadS (ztJ i)).2.1⟩
 ·exact fun q=>((zadS (zs3 b)).1 q).1
 ·exact (zadS (ztJ i)).2.2
 ·exact (zadS (zvw h)).2
 ·exact (zadS (zs3 b)).2 hb
theorem ztW(h:zbk):(zaS.enc h).1.length<=16:=(zadS (zvw h)).1
theorem zabR(b:List UInt8)(q:(zaS.par b).2=0):b.length=16/\1<=(zaS.par b).1.gen/\(zaS.par b).1.gen<=65536:=((zadS (zs3 b)).1 q).2
theorem zWd{R:Option (AV×zf)}{args:List AV}{os:zf}(e:zg G zcc args os=R:=by rw[zO zXH (by simp)];simp -implicitDefEqProofs (maxSteps:=4000000) (disch:=omega) only[zuU,zCq,za2,zAX,zAY,zj,go_sem, *];(try simp only[zPr]);repeat' (first|done|rfl|((first|refine zay (fun hq=> ?_) (fun hq=> ?_)|refine zaD (fun hq=> ?_) (fun hq=> ?_))<;>(try (first|(exfalso;omega)|contradiction))<;>(try simp -implicitDefEqProofs (maxSteps:=4000000) (disch:=omega) only[za2,zAX,zAY,zj,go_sem, *])<;>(try simp only[zPr])));(all_goals try rfl);(all_goals try (repeat' (first|done|rfl|(exfalso;omega)|contradiction|(refine zaz (fun hq=> ?_) (fun hq=> ?_)))))):zg G zcc args os=R:=e
theorem zWa{R:Option (AV×zf)}{args:List AV}{os:zf}(e:zg G zb7 args os=R:=by rw[zO zhg (by simp)];simp -implicitDefEqProofs (maxSteps:=4000000) (disch:=omega) only[zuY,zCt,zdz,za2,zA4,zj,go_sem, *];(try simp only[zPr]);repeat' (first|done|rfl|((first|refine zay (fun hq=> ?_) (fun hq=> ?_)|refine zaD (fun hq=> ?_) (fun hq=> ?_))<;>(try (first|(exfalso;omega)|contradiction))<;>(try simp -implicitDefEqProofs (maxSteps:=4000000) (disch:=omega) only[zdz,za2,zA4,zj,go_sem, *])<;>(try simp only[zPr])));(all_goals try rfl);(all_goals try (repeat' (first|done|rfl|(exfalso;omega)|contradiction|(refine zaz (fun hq=> ?_) (fun hq=> ?_)))))):zg G zb7 args os=R:=e
theorem z0U:zg G zcc [.d (.int .i64 1),.d (.int .i64 1)] []=some (.d (.tup [zU ⟨1,[⟨0,65535,0⟩],[-1]⟩,.int .i64 0]),[]):=by
 simp only[zU,zaw,zB,zac1,zacZ];exact zWd
theorem zSe(c d l k i e:Int)(q:zJ ⟨1,1,c,d,l,k,i,e⟩=true):zR ⟨1,1,c,d,l,k,i,e⟩=(⟨[⟨0,(zG c 0 65535).1⟩],[⟨0,e,0,0⟩],⟨0,⟨d,[]⟩⟩,⟨1,[⟨0,65535,0⟩],[-1]⟩,e,k,i⟩,0):=by
 have hd:zcr 1 1=(⟨1,[⟨0,65535,0⟩],[-1]⟩,0):=by decide
 unfold zR;rw[zacX (by rw[q];decide)];simp only[hd];rfl
theorem z1f(c d l k i e:Int)(q:zJ ⟨1,1,c,d,l,k,i,e⟩=true):zg G zb7 [.d (zK ⟨1,1,c,d,l,k,i,e⟩)] []=some (.d (.tup [zi (zR ⟨1,1,c,d,l,k,i,e⟩).1,.int .i64 (zR ⟨1,1,c,d,l,k,i,e⟩).2]),[]):=by
 have hn:=z0U;rw[zSe c d l k i e q];unfold zJ at q;simp only[zac7] at q;obtain⟨i1,i2,i3,i4,i5,i6,i7,i8⟩:=q;have h4:1<=d/\d<=24:=by simpa [inI] using i4
 have hz:=zcL d;rw[zacX zo,zacX zo] at hz;have hf:=zcC c;have hs0:=zaF c 0 65535;generalize zao c=rf at *;obtain⟨rf,ef⟩:=rf;simp only at *;generalize zG c 0 65535=r0 at *;obtain⟨r0,e0⟩:=r0;simp only at *;simp only[zk,zK,zi,zX,zU,zaw,zbE,zae,zB,zac1,zacZ] at *;exact zWa
theorem z0V:zg G zcc [.d (.int .i64 2),.d (.int .i64 1)] []=some (.d (.tup [zU ⟨1,[⟨0,65535,0⟩],[-1, -1]⟩,.int .i64 0]),[]):=by
 simp only[zU,zaw,zB,zac1,zacZ];exact zWd
theorem zSf(c d l k i e:Int)(q:zJ ⟨2,1,c,d,l,k,i,e⟩=true):zR ⟨2,1,c,d,l,k,i,e⟩=(⟨[⟨0,(zG c 0 65535).1⟩,⟨0,(zao c).1⟩],[⟨0,e,0,0⟩,⟨0,e,0,0⟩],⟨0,⟨d,[]⟩⟩,⟨1,[⟨0,65535,0⟩],[-1, -1]⟩,e,k,i⟩,0):=by
 have hd:zcr 2 1=(⟨1,[⟨0,65535,0⟩],[-1, -1]⟩,0):=by decide
 unfold zR;rw[zacX (by rw[q];decide)];simp only[hd];rfl
theorem z1g(c d l k i e:Int)(q:zJ ⟨2,1,c,d,l,k,i,e⟩=true):zg G zb7 [.d (zK ⟨2,1,c,d,l,k,i,e⟩)] []=some (.d (.tup [zi (zR ⟨2,1,c,d,l,k,i,e⟩).1,.int .i64 (zR ⟨2,1,c,d,l,k,i,e⟩).2]),[]):=by
 have hn:=z0V;rw[zSf c d l k i e q];unfold zJ at q;simp only[zac7] at q;obtain⟨i1,i2,i3,i4,i5,i6,i7,i8⟩:=q;have h4:1<=d/\d<=24:=by simpa [inI] using i4
 have hz:=zcL d;rw[zacX zo,zacX zo] at hz;have hf:=zcC c;have hs0:=zaF c 0 65535;clear h4;generalize zao c=rf at *;obtain⟨rf,ef⟩:=rf;simp only at *;generalize zG c 0 65535=r0 at *;obtain⟨r0,e0⟩:=r0;simp only at *;simp only[zk,zK,zi,zX,zU,zaw,zbE,zae,zB,zac1,zacZ] at *;exact zWa
theorem z0W:zg G zcc [.d (.int .i64 2),.d (.int .i64 2)] []=some (.d (.tup [zU ⟨1,[⟨0,32767,0⟩,⟨32768,65535,1⟩],[-1, -1]⟩,.int .i64 0]),[]):=by
 simp only[zU,zaw,zB,zac1,zacZ];exact zWd
theorem zSg(c d l k i e:Int)(q:zJ ⟨2,2,c,d,l,k,i,e⟩=true):zR ⟨2,2,c,d,l,k,i,e⟩=(⟨[⟨0,(zG c 0 32767).1⟩,⟨0,(zG c 32768 65535).1⟩],[⟨0,e,0,0⟩,⟨0,e,0,0⟩],⟨0,⟨d,[]⟩⟩,⟨1,[⟨0,32767,0⟩,⟨32768,65535,1⟩],[-1, -1]⟩,e,k,i⟩,0):=by
 have hd:zcr 2 2=(⟨1,[⟨0,32767,0⟩,⟨32768,65535,1⟩],[-1, -1]⟩,0):=by decide
 unfold zR;rw[zacX (by rw[q];decide)];simp only[hd];rfl
theorem z1h(c d l k i e:Int)(q:zJ ⟨2,2,c,d,l,k,i,e⟩=true):zg G zb7 [.d (zK ⟨2,2,c,d,l,k,i,e⟩)] []=some (.d (.tup [zi (zR ⟨2,2,c,d,l,k,i,e⟩).1,.int .i64 (zR ⟨2,2,c,d,l,k,i,e⟩).2]),[]):=by
 have hn:=z0W;rw[zSg c d l k i e q];unfold zJ at q;simp only[zac7] at q;obtain⟨i1,i2,i3,i4,i5,i6,i7,i8⟩:=q;have h4:1<=d/\d<=24:=by simpa [inI] using i4
 have hz:=zcL d;rw[zacX zo,zacX zo] at hz;have hf:=zcC c;have hs0:=zaF c 0 32767;have hs1:=zaF c 32768 65535;generalize zao c=rf at *;obtain⟨rf,ef⟩:=rf;simp only at *;generalize zG c 0 32767=r0 at *;obtain⟨r0,e0⟩:=r0;simp only at *;generalize zG c 32768 65535=r1 at *;obtain⟨r1,e1⟩:=r1;simp only at *;simp only[zk,zK,zi,zX,zU,zaw,zbE,zae,zB,zac1,zacZ] at *;exact zWa
theorem z0X:zg G zcc [.d (.int .i64 3),.d (.int .i64 1)] []=some (.d (.tup [zU ⟨1,[⟨0,65535,0⟩],[-1, -1, -1]⟩,.int .i64 0]),[]):=by
 simp only[zU,zaw,zB,zac1,zacZ];exact zWd
theorem zSh(c d l k i e:Int)(q:zJ ⟨3,1,c,d,l,k,i,e⟩=true):zR ⟨3,1,c,d,l,k,i,e⟩=(⟨[⟨0,(zG c 0 65535).1⟩,⟨0,(zao c).1⟩,⟨0,(zao c).1⟩],[⟨0,e,0,0⟩,⟨0,e,0,0⟩,⟨0,e,0,0⟩],⟨0,⟨d,[]⟩⟩,⟨1,[⟨0,65535,0⟩],[-1, -1, -1]⟩,e,k,i⟩,0):=by
 have hd:zcr 3 1=(⟨1,[⟨0,65535,0⟩],[-1, -1, -1]⟩,0):=by decide
 unfold zR;rw[zacX (by rw[q];decide)];simp only[hd];rfl
theorem z1i(c d l k i e:Int)(q:zJ ⟨3,1,c,d,l,k,i,e⟩=true):zg G zb7 [.d (zK ⟨3,1,c,d,l,k,i,e⟩)] []=some (.d (.tup [zi (zR ⟨3,1,c,d,l,k,i,e⟩).1,.int .i64 (zR ⟨3,1,c,d,l,k,i,e⟩).2]),[]):=by
 have hn:=z0X;rw[zSh c d l k i e q];unfold zJ at q;simp only[zac7] at q;obtain⟨i1,i2,i3,i4,i5,i6,i7,i8⟩:=q;have h4:1<=d/\d<=24:=by simpa [inI] using i4
 have hz:=zcL d;rw[zacX zo,zacX zo] at hz;have hf:=zcC c;have hs0:=zaF c 0 65535;clear h4;generalize zao c=rf at *;obtain⟨rf,ef⟩:=rf;simp only at *;generalize zG c 0 65535=r0 at *;obtain⟨r0,e0⟩:=r0;simp only at *;simp only[zk,zK,zi,zX,zU,zaw,zbE,zae,zB,zac1,zacZ] at *;exact zWa
theorem z0Y:zg G zcc [.d (.int .i64 3),.d (.int .i64 2)] []=some (.d (.tup [zU ⟨1,[⟨0,32767,0⟩,⟨32768,65535,1⟩],[-1, -1, -1]⟩,.int .i64 0]),[]):=by
 simp only[zU,zaw,zB,zac1,zacZ];exact zWd
theorem zSi(c d l k i e:Int)(q:zJ ⟨3,2,c,d,l,k,i,e⟩=true):zR ⟨3,2,c,d,l,k,i,e⟩=(⟨[⟨0,(zG c 0 32767).1⟩,⟨0,(zG c 32768 65535).1⟩,⟨0,(zao c).1⟩],[⟨0,e,0,0⟩,⟨0,e,0,0⟩,⟨0,e,0,0⟩],⟨0,⟨d,[]⟩⟩,⟨1,[⟨0,32767,0⟩,⟨32768,65535,1⟩],[-1, -1, -1]⟩,e,k,i⟩,0):=by
 have hd:zcr 3 2=(⟨1,[⟨0,32767,0⟩,⟨32768,65535,1⟩],[-1, -1, -1]⟩,0):=by decide
 unfold zR;rw[zacX (by rw[q];decide)];simp only[hd];rfl
theorem z1j(c d l k i e:Int)(q:zJ ⟨3,2,c,d,l,k,i,e⟩=true):zg G zb7 [.d (zK ⟨3,2,c,d,l,k,i,e⟩)] []=some (.d (.tup [zi (zR ⟨3,2,c,d,l,k,i,e⟩).1,.int .i64 (zR ⟨3,2,c,d,l,k,i,e⟩).2]),[]):=by
 have hn:=z0Y;rw[zSi c d l k i e q];unfold zJ at q;simp only[zac7] at q;obtain⟨i1,i2,i3,i4,i5,i6,i7,i8⟩:=q;have h4:1<=d/\d<=24:=by simpa [inI] using i4
 have hz:=zcL d;rw[zacX zo,zacX zo] at hz;have hf:=zcC c;have hs0:=zaF c 0 32767;have hs1:=zaF c 32768 65535;clear h4;generalize zao c=rf at *;obtain⟨rf,ef⟩:=rf;simp only at *;generalize zG c 0 32767=r0 at *;obtain⟨r0,e0⟩:=r0;simp only at *;generalize zG c 32768 65535=r1 at *;obtain⟨r1,e1⟩:=r1;simp only at *;simp only[zk,zK,zi,zX,zU,zaw,zbE,zae,zB,zac1,zacZ] at *;exact zWa
theorem z0Z:zg G zcc [.d (.int .i64 3),.d (.int .i64 3)] []=some (.d (.tup [zU ⟨1,[⟨0,21844,0⟩,⟨21845,43689,1⟩,⟨43690,65535,2⟩],[-1, -1, -1]⟩,.int .i64 0]),[]):=by
 simp only[zU,zaw,zB,zac1,zacZ];exact zWd
theorem zSj(c d l k i e:Int)(q:zJ ⟨3,3,c,d,l,k,i,e⟩=true):zR ⟨3,3,c,d,l,k,i,e⟩=(⟨[⟨0,(zG c 0 21844).1⟩,⟨0,(zG c 21845 43689).1⟩,⟨0,(zG c 43690 65535).1⟩],[⟨0,e,0,0⟩,⟨0,e,0,0⟩,⟨0,e,0,0⟩],⟨0,⟨d,[]⟩⟩,⟨1,[⟨0,21844,0⟩,⟨21845,43689,1⟩,⟨43690,65535,2⟩],[-1, -1, -1]⟩,e,k,i⟩,0):=by
 have hd:zcr 3 3=(⟨1,[⟨0,21844,0⟩,⟨21845,43689,1⟩,⟨43690,65535,2⟩],[-1, -1, -1]⟩,0):=by decide
 unfold zR;rw[zacX (by rw[q];decide)];simp only[hd];rfl
theorem z1k(c d l k i e:Int)(q:zJ ⟨3,3,c,d,l,k,i,e⟩=true):zg G zb7 [.d (zK ⟨3,3,c,d,l,k,i,e⟩)] []=some (.d (.tup [zi (zR ⟨3,3,c,d,l,k,i,e⟩).1,.int .i64 (zR ⟨3,3,c,d,l,k,i,e⟩).2]),[]):=by
 have hn:=z0Z;rw[zSj c d l k i e q];unfold zJ at q;simp only[zac7] at q;obtain⟨i1,i2,i3,i4,i5,i6,i7,i8⟩:=q;have h4:1<=d/\d<=24:=by simpa [inI] using i4
 have hz:=zcL d;rw[zacX zo,zacX zo] at hz;have hf:=zcC c;have hs0:=zaF c 0 21844;have hs1:=zaF c 21845 43689;have hs2:=zaF c 43690 65535;generalize zao c=rf at *;obtain⟨rf,ef⟩:=rf;simp only at *;generalize zG c 0 21844=r0 at *;obtain⟨r0,e0⟩:=r0;simp only at *;generalize zG c 21845 43689=r1 at *;obtain⟨r1,e1⟩:=r1;simp only at *;generalize zG c 43690 65535=r2 at *;obtain⟨r2,e2⟩:=r2;simp only at *;simp only[zk,zK,zi,zX,zU,zaw,zbE,zae,zB,zac1,zacZ] at *;exact zWa
theorem z00:zg G zcc [.d (.int .i64 4),.d (.int .i64 1)] []=some (.d (.tup [zU ⟨1,[⟨0,65535,0⟩],[-1, -1, -1, -1]⟩,.int .i64 0]),[]):=by
 simp only[zU,zaw,zB,zac1,zacZ];exact zWd
theorem zSk(c d l k i e:Int)(q:zJ ⟨4,1,c,d,l,k,i,e⟩=true):zR ⟨4,1,c,d,l,k,i,e⟩=(⟨[⟨0,(zG c 0 65535).1⟩,⟨0,(zao c).1⟩,⟨0,(zao c).1⟩,⟨0,(zao c).1⟩],[⟨0,e,0,0⟩,⟨0,e,0,0⟩,⟨0,e,0,0⟩,⟨0,e,0,0⟩],⟨0,⟨d,[]⟩⟩,⟨1,[⟨0,65535,0⟩],[-1, -1, -1, -1]⟩,e,k,i⟩,0):=by
 have hd:zcr 4 1=(⟨1,[⟨0,65535,0⟩],[-1, -1, -1, -1]⟩,0):=by decide
 unfold zR;rw[zacX (by rw[q];decide)];simp only[hd];rfl
theorem z1l(c d l k i e:Int)(q:zJ ⟨4,1,c,d,l,k,i,e⟩=true):zg G zb7 [.d (zK ⟨4,1,c,d,l,k,i,e⟩)] []=some (.d (.tup [zi (zR ⟨4,1,c,d,l,k,i,e⟩).1,.int .i64 (zR ⟨4,1,c,d,l,k,i,e⟩).2]),[]):=by
 have hn:=z00;rw[zSk c d l k i e q];unfold zJ at q;simp only[zac7] at q;obtain⟨i1,i2,i3,i4,i5,i6,i7,i8⟩:=q;have h4:1<=d/\d<=24:=by simpa [inI] using i4
 have hz:=zcL d;rw[zacX zo,zacX zo] at hz;have hf:=zcC c;have hs0:=zaF c 0 65535;clear h4;generalize zao c=rf at *;obtain⟨rf,ef⟩:=rf;simp only at *;generalize zG c 0 65535=r0 at *;obtain⟨r0,e0⟩:=r0;simp only at *;simp only[zk,zK,zi,zX,zU,zaw,zbE,zae,zB,zac1,zacZ] at *;exact zWa
theorem z01:zg G zcc [.d (.int .i64 4),.d (.int .i64 2)] []=some (.d (.tup [zU ⟨1,[⟨0,32767,0⟩,⟨32768,65535,1⟩],[-1, -1, -1, -1]⟩,.int .i64 0]),[]):=by
 simp only[zU,zaw,zB,zac1,zacZ];exact zWd
theorem zSl(c d l k i e:Int)(q:zJ ⟨4,2,c,d,l,k,i,e⟩=true):zR ⟨4,2,c,d,l,k,i,e⟩=(⟨[⟨0,(zG c 0 32767).1⟩,⟨0,(zG c 32768 65535).1⟩,⟨0,(zao c).1⟩,⟨0,(zao c).1⟩],[⟨0,e,0,0⟩,⟨0,e,0,0⟩,⟨0,e,0,0⟩,⟨0,e,0,0⟩],⟨0,⟨d,[]⟩⟩,⟨1,[⟨0,32767,0⟩,⟨32768,65535,1⟩],[-1, -1, -1, -1]⟩,e,k,i⟩,0):=by
 have hd:zcr 4 2=(⟨1,[⟨0,32767,0⟩,⟨32768,65535,1⟩],[-1, -1, -1, -1]⟩,0):=by decide
 unfold zR;rw[zacX (by rw[q];decide)];simp only[hd];rfl
theorem z1m(c d l k i e:Int)(q:zJ ⟨4,2,c,d,l,k,i,e⟩=true):zg G zb7 [.d (zK ⟨4,2,c,d,l,k,i,e⟩)] []=some (.d (.tup [zi (zR ⟨4,2,c,d,l,k,i,e⟩).1,.int .i64 (zR ⟨4,2,c,d,l,k,i,e⟩).2]),[]):=by
 have hn:=z01;rw[zSl c d l k i e q];unfold zJ at q;simp only[zac7] at q;obtain⟨i1,i2,i3,i4,i5,i6,i7,i8⟩:=q;have h4:1<=d/\d<=24:=by simpa [inI] using i4
 have hz:=zcL d;rw[zacX zo,zacX zo] at hz;have hf:=zcC c;have hs0:=zaF c 0 32767;have hs1:=zaF c 32768 65535;clear h4;generalize zao c=rf at *;obtain⟨rf,ef⟩:=rf;simp only at *;generalize zG c 0 32767=r0 at *;obtain⟨r0,e0⟩:=r0;simp only at *;generalize zG c 32768 65535=r1 at *;obtain⟨r1,e1⟩:=r1;simp only at *;simp only[zk,zK,zi,zX,zU,zaw,zbE,zae,zB,zac1,zacZ] at *;exact zWa
theorem z02:zg G zcc [.d (.int .i64 4),.d (.int .i64 3)] []=some (.d (.tup [zU ⟨1,[⟨0,21844,0⟩,⟨21845,43689,1⟩,⟨43690,65535,2⟩],[-1, -1, -1, -1]⟩,.int .i64 0]),[]):=by
 simp only[zU,zaw,zB,zac1,zacZ];exact zWd
theorem zSm(c d l k i e:Int)(q:zJ ⟨4,3,c,d,l,k,i,e⟩=true):zR ⟨4,3,c,d,l,k,i,e⟩=(⟨[⟨0,(zG c 0 21844).1⟩,⟨0,(zG c 21845 43689).1⟩,⟨0,(zG c 43690 65535).1⟩,⟨0,(zao c).1⟩],[⟨0,e,0,0⟩,⟨0,e,0,0⟩,⟨0,e,0,0⟩,⟨0,e,0,0⟩],⟨0,⟨d,[]⟩⟩,⟨1,[⟨0,21844,0⟩,⟨21845,43689,1⟩,⟨43690,65535,2⟩],[-1, -1, -1, -1]⟩,e,k,i⟩,0):=by
 have hd:zcr 4 3=(⟨1,[⟨0,21844,0⟩,⟨21845,43689,1⟩,⟨43690,65535,2⟩],[-1, -1, -1, -1]⟩,0):=by decide
 unfold zR;rw[zacX (by rw[q];decide)];simp only[hd];rfl
theorem z1n(c d l k i e:Int)(q:zJ ⟨4,3,c,d,l,k,i,e⟩=true):zg G zb7 [.d (zK ⟨4,3,c,d,l,k,i,e⟩)] []=some (.d (.tup [zi (zR ⟨4,3,c,d,l,k,i,e⟩).1,.int .i64 (zR ⟨4,3,c,d,l,k,i,e⟩).2]),[]):=by
 have hn:=z02;rw[zSm c d l k i e q];unfold zJ at q;simp only[zac7] at q;obtain⟨i1,i2,i3,i4,i5,i6,i7,i8⟩:=q;have h4:1<=d/\d<=24:=by simpa [inI] using i4
 have hz:=zcL d;rw[zacX zo,zacX zo] at hz;have hf:=zcC c;have hs0:=zaF c 0 21844;have hs1:=zaF c 21845 43689;have hs2:=zaF c 43690 65535;clear h4;generalize zao c=rf at *;obtain⟨rf,ef⟩:=rf;simp only at *;generalize zG c 0 21844=r0 at *;obtain⟨r0,e0⟩:=r0;simp only at *;generalize zG c 21845 43689=r1 at *;obtain⟨r1,e1⟩:=r1;simp only at *;generalize zG c 43690 65535=r2 at *;obtain⟨r2,e2⟩:=r2;simp only at *;simp only[zk,zK,zi,zX,zU,zaw,zbE,zae,zB,zac1,zacZ] at *;exact zWa
theorem z03:zg G zcc [.d (.int .i64 4),.d (.int .i64 4)] []=some (.d (.tup [zU ⟨1,[⟨0,16383,0⟩,⟨16384,32767,1⟩,⟨32768,49151,2⟩,⟨49152,65535,3⟩],[-1, -1, -1, -1]⟩,.int .i64 0]),[]):=by
 simp only[zU,zaw,zB,zac1,zacZ];exact zWd
theorem zSn(c d l k i e:Int)(q:zJ ⟨4,4,c,d,l,k,i,e⟩=true):zR ⟨4,4,c,d,l,k,i,e⟩=(⟨[⟨0,(zG c 0 16383).1⟩,⟨0,(zG c 16384 32767).1⟩,⟨0,(zG c 32768 49151).1⟩,⟨0,(zG c 49152 65535).1⟩],[⟨0,e,0,0⟩,⟨0,e,0,0⟩,⟨0,e,0,0⟩,⟨0,e,0,0⟩],⟨0,⟨d,[]⟩⟩,⟨1,[⟨0,16383,0⟩,⟨16384,32767,1⟩,⟨32768,49151,2⟩,⟨49152,65535,3⟩],[-1, -1, -1, -1]⟩,e,k,i⟩,0):=by
 have hd:zcr 4 4=(⟨1,[⟨0,16383,0⟩,⟨16384,32767,1⟩,⟨32768,49151,2⟩,⟨49152,65535,3⟩],[-1, -1, -1, -1]⟩,0):=by decide
 unfold zR;rw[zacX (by rw[q];decide)];simp only[hd];rfl
theorem z1o(c d l k i e:Int)(q:zJ ⟨4,4,c,d,l,k,i,e⟩=true):zg G zb7 [.d (zK ⟨4,4,c,d,l,k,i,e⟩)] []=some (.d (.tup [zi (zR ⟨4,4,c,d,l,k,i,e⟩).1,.int .i64 (zR ⟨4,4,c,d,l,k,i,e⟩).2]),[]):=by
 have hn:=z03;rw[zSn c d l k i e q];unfold zJ at q;simp only[zac7] at q;obtain⟨i1,i2,i3,i4,i5,i6,i7,i8⟩:=q;have h4:1<=d/\d<=24:=by simpa [inI] using i4
 have hz:=zcL d;rw[zacX zo,zacX zo] at hz;have hf:=zcC c;have hs0:=zaF c 0 16383;have hs1:=zaF c 16384 32767;have hs2:=zaF c 32768 49151;have hs3:=zaF c 49152 65535;generalize zao c=rf at *;obtain⟨rf,ef⟩:=rf;simp only at *;generalize zG c 0 16383=r0 at *;obtain⟨r0,e0⟩:=r0;simp only at *;generalize zG c 16384 32767=r1 at *;obtain⟨r1,e1⟩:=r1;simp only at *;generalize zG c 32768 49151=r2 at *;obtain⟨r2,e2⟩:=r2;simp only at *;generalize zG c 49152 65535=r3 at *;obtain⟨r3,e3⟩:=r3;simp only at *;simp only[zk,zK,zi,zX,zU,zaw,zbE,zae,zB,zac1,zacZ] at *;exact zWa
theorem z04:zg G zcc [.d (.int .i64 5),.d (.int .i64 1)] []=some (.d (.tup [zU ⟨1,[⟨0,65535,0⟩],[-1, -1, -1, -1, -1]⟩,.int .i64 0]),[]):=by
 simp only[zU,zaw,zB,zac1,zacZ];exact zWd
theorem zSo(c d l k i e:Int)(q:zJ ⟨5,1,c,d,l,k,i,e⟩=true):zR ⟨5,1,c,d,l,k,i,e⟩=(⟨[⟨0,(zG c 0 65535).1⟩,⟨0,(zao c).1⟩,⟨0,(zao c).1⟩,⟨0,(zao c).1⟩,⟨0,(zao c).1⟩],[⟨0,e,0,0⟩,⟨0,e,0,0⟩,⟨0,e,0,0⟩,⟨0,e,0,0⟩,⟨0,e,0,0⟩],⟨0,⟨d,[]⟩⟩,⟨1,[⟨0,65535,0⟩],[-1, -1, -1, -1, -1]⟩,e,k,i⟩,0):=by
 have hd:zcr 5 1=(⟨1,[⟨0,65535,0⟩],[-1, -1, -1, -1, -1]⟩,0):=by decide
 unfold zR;rw[zacX (by rw[q];decide)];simp only[hd];rfl
theorem z1p(c d l k i e:Int)(q:zJ ⟨5,1,c,d,l,k,i,e⟩=true):zg G zb7 [.d (zK ⟨5,1,c,d,l,k,i,e⟩)] []=some (.d (.tup [zi (zR ⟨5,1,c,d,l,k,i,e⟩).1,.int .i64 (zR ⟨5,1,c,d,l,k,i,e⟩).2]),[]):=by
 have hn:=z04;rw[zSo c d l k i e q];unfold zJ at q;simp only[zac7] at q;obtain⟨i1,i2,i3,i4,i5,i6,i7,i8⟩:=q;have h4:1<=d/\d<=24:=by simpa [inI] using i4
 have hz:=zcL d;rw[zacX zo,zacX zo] at hz;have hf:=zcC c;have hs0:=zaF c 0 65535;clear h4;generalize zao c=rf at *;obtain⟨rf,ef⟩:=rf;simp only at *;generalize zG c 0 65535=r0 at *;obtain⟨r0,e0⟩:=r0;simp only at *;simp only[zk,zK,zi,zX,zU,zaw,zbE,zae,zB,zac1,zacZ] at *;exact zWa
theorem z05:zg G zcc [.d (.int .i64 5),.d (.int .i64 2)] []=some (.d (.tup [zU ⟨1,[⟨0,32767,0⟩,⟨32768,65535,1⟩],[-1, -1, -1, -1, -1]⟩,.int .i64 0]),[]):=by
 simp only[zU,zaw,zB,zac1,zacZ];exact zWd
theorem zSp(c d l k i e:Int)(q:zJ ⟨5,2,c,d,l,k,i,e⟩=true):zR ⟨5,2,c,d,l,k,i,e⟩=(⟨[⟨0,(zG c 0 32767).1⟩,⟨0,(zG c 32768 65535).1⟩,⟨0,(zao c).1⟩,⟨0,(zao c).1⟩,⟨0,(zao c).1⟩],[⟨0,e,0,0⟩,⟨0,e,0,0⟩,⟨0,e,0,0⟩,⟨0,e,0,0⟩,⟨0,e,0,0⟩],⟨0,⟨d,[]⟩⟩,⟨1,[⟨0,32767,0⟩,⟨32768,65535,1⟩],[-1, -1, -1, -1, -1]⟩,e,k,i⟩,0):=by
 have hd:zcr 5 2=(⟨1,[⟨0,32767,0⟩,⟨32768,65535,1⟩],[-1, -1, -1, -1, -1]⟩,0):=by decide
 unfold zR;rw[zacX (by rw[q];decide)];simp only[hd];rfl
theorem z1q(c d l k i e:Int)(q:zJ ⟨5,2,c,d,l,k,i,e⟩=true):zg G zb7 [.d (zK ⟨5,2,c,d,l,k,i,e⟩)] []=some (.d (.tup [zi (zR ⟨5,2,c,d,l,k,i,e⟩).1,.int .i64 (zR ⟨5,2,c,d,l,k,i,e⟩).2]),[]):=by
 have hn:=z05;rw[zSp c d l k i e q];unfold zJ at q;simp only[zac7] at q;obtain⟨i1,i2,i3,i4,i5,i6,i7,i8⟩:=q;have h4:1<=d/\d<=24:=by simpa [inI] using i4
 have hz:=zcL d;rw[zacX zo,zacX zo] at hz;have hf:=zcC c;have hs0:=zaF c 0 32767;have hs1:=zaF c 32768 65535;clear h4;generalize zao c=rf at *;obtain⟨rf,ef⟩:=rf;simp only at *;generalize zG c 0 32767=r0 at *;obtain⟨r0,e0⟩:=r0;simp only at *;generalize zG c 32768 65535=r1 at *;obtain⟨r1,e1⟩:=r1;simp only at *;simp only[zk,zK,zi,zX,zU,zaw,zbE,zae,zB,zac1,zacZ] at *;exact zWa
theorem z06:zg G zcc [.d (.int .i64 5),.d (.int .i64 3)] []=some (.d (.tup [zU ⟨1,[⟨0,21844,0⟩,⟨21845,43689,1⟩,⟨43690,65535,2⟩],[-1, -1, -1, -1, -1]⟩,.int .i64 0]),[]):=by
 simp only[zU,zaw,zB,zac1,zacZ];exact zWd
theorem zSq(c d l k i e:Int)(q:zJ ⟨5,3,c,d,l,k,i,e⟩=true):zR ⟨5,3,c,d,l,k,i,e⟩=(⟨[⟨0,(zG c 0 21844).1⟩,⟨0,(zG c 21845 43689).1⟩,⟨0,(zG c 43690 65535).1⟩,⟨0,(zao c).1⟩,⟨0,(zao c).1⟩],[⟨0,e,0,0⟩,⟨0,e,0,0⟩,⟨0,e,0,0⟩,⟨0,e,0,0⟩,⟨0,e,0,0⟩],⟨0,⟨d,[]⟩⟩,⟨1,[⟨0,21844,0⟩,⟨21845,43689,1⟩,⟨43690,65535,2⟩],[-1, -1, -1, -1, -1]⟩,e,k,i⟩,0):=by
 have hd:zcr 5 3=(⟨1,[⟨0,21844,0⟩,⟨21845,43689,1⟩,⟨43690,65535,2⟩],[-1, -1, -1, -1, -1]⟩,0):=by decide
 unfold zR;rw[zacX (by rw[q];decide)];simp only[hd];rfl
theorem z1r(c d l k i e:Int)(q:zJ ⟨5,3,c,d,l,k,i,e⟩=true):zg G zb7 [.d (zK ⟨5,3,c,d,l,k,i,e⟩)] []=some (.d (.tup [zi (zR ⟨5,3,c,d,l,k,i,e⟩).1,.int .i64 (zR ⟨5,3,c,d,l,k,i,e⟩).2]),[]):=by
 have hn:=z06;rw[zSq c d l k i e q];unfold zJ at q;simp only[zac7] at q;obtain⟨i1,i2,i3,i4,i5,i6,i7,i8⟩:=q;have h4:1<=d/\d<=24:=by simpa [inI] using i4
 have hz:=zcL d;rw[zacX zo,zacX zo] at hz;have hf:=zcC c;have hs0:=zaF c 0 21844;have hs1:=zaF c 21845 43689;have hs2:=zaF c 43690 65535;clear h4;generalize zao c=rf at *;obtain⟨rf,ef⟩:=rf;simp only at *;generalize zG c 0 21844=r0 at *;obtain⟨r0,e0⟩:=r0;simp only at *;generalize zG c 21845 43689=r1 at *;obtain⟨r1,e1⟩:=r1;simp only at *;generalize zG c 43690 65535=r2 at *;obtain⟨r2,e2⟩:=r2;simp only at *;simp only[zk,zK,zi,zX,zU,zaw,zbE,zae,zB,zac1,zacZ] at *;exact zWa
theorem z07:zg G zcc [.d (.int .i64 5),.d (.int .i64 4)] []=some (.d (.tup [zU ⟨1,[⟨0,16383,0⟩,⟨16384,32767,1⟩,⟨32768,49151,2⟩,⟨49152,65535,3⟩],[-1, -1, -1, -1, -1]⟩,.int .i64 0]),[]):=by
 simp only[zU,zaw,zB,zac1,zacZ];exact zWd
theorem zSr(c d l k i e:Int)(q:zJ ⟨5,4,c,d,l,k,i,e⟩=true):zR ⟨5,4,c,d,l,k,i,e⟩=(⟨[⟨0,(zG c 0 16383).1⟩,⟨0,(zG c 16384 32767).1⟩,⟨0,(zG c 32768 49151).1⟩,⟨0,(zG c 49152 65535).1⟩,⟨0,(zao c).1⟩],[⟨0,e,0,0⟩,⟨0,e,0,0⟩,⟨0,e,0,0⟩,⟨0,e,0,0⟩,⟨0,e,0,0⟩],⟨0,⟨d,[]⟩⟩,⟨1,[⟨0,16383,0⟩,⟨16384,32767,1⟩,⟨32768,49151,2⟩,⟨49152,65535,3⟩],[-1, -1, -1, -1, -1]⟩,e,k,i⟩,0):=by
 have hd:zcr 5 4=(⟨1,[⟨0,16383,0⟩,⟨16384,32767,1⟩,⟨32768,49151,2⟩,⟨49152,65535,3⟩],[-1, -1, -1, -1, -1]⟩,0):=by decide
 unfold zR;rw[zacX (by rw[q];decide)];simp only[hd];rfl
theorem z1s(c d l k i e:Int)(q:zJ ⟨5,4,c,d,l,k,i,e⟩=true):zg G zb7 [.d (zK ⟨5,4,c,d,l,k,i,e⟩)] []=some (.d (.tup [zi (zR ⟨5,4,c,d,l,k,i,e⟩).1,.int .i64 (zR ⟨5,4,c,d,l,k,i,e⟩).2]),[]):=by
 have hn:=z07;rw[zSr c d l k i e q];unfold zJ at q;simp only[zac7] at q;obtain⟨i1,i2,i3,i4,i5,i6,i7,i8⟩:=q;have h4:1<=d/\d<=24:=by simpa [inI] using i4
 have hz:=zcL d;rw[zacX zo,zacX zo] at hz;have hf:=zcC c;have hs0:=zaF c 0 16383;have hs1:=zaF c 16384 32767;have hs2:=zaF c 32768 49151;have hs3:=zaF c 49152 65535;clear h4;generalize zao c=rf at *;obtain⟨rf,ef⟩:=rf;simp only at *;generalize zG c 0 16383=r0 at *;obtain⟨r0,e0⟩:=r0;simp only at *;generalize zG c 16384 32767=r1 at *;obtain⟨r1,e1⟩:=r1;simp only at *;generalize zG c 32768 49151=r2 at *;obtain⟨r2,e2⟩:=r2;simp only at *;generalize zG c 49152 65535=r3 at *;obtain⟨r3,e3⟩:=r3;simp only at *;simp only[zk,zK,zi,zX,zU,zaw,zbE,zae,zB,zac1,zacZ] at *;exact zWa
theorem z08:zg G zcc [.d (.int .i64 5),.d (.int .i64 5)] []=some (.d (.tup [zU ⟨1,[⟨0,13106,0⟩,⟨13107,26213,1⟩,⟨26214,39320,2⟩,⟨39321,52427,3⟩,⟨52428,65535,4⟩],[-1, -1, -1, -1, -1]⟩,.int .i64 0]),[]):=by
 simp only[zU,zaw,zB,zac1,zacZ];exact zWd
theorem zSs(c d l k i e:Int)(q:zJ ⟨5,5,c,d,l,k,i,e⟩=true):zR ⟨5,5,c,d,l,k,i,e⟩=(⟨[⟨0,(zG c 0 13106).1⟩,⟨0,(zG c 13107 26213).1⟩,⟨0,(zG c 26214 39320).1⟩,⟨0,(zG c 39321 52427).1⟩,⟨0,(zG c 52428 65535).1⟩],[⟨0,e,0,0⟩,⟨0,e,0,0⟩,⟨0,e,0,0⟩,⟨0,e,0,0⟩,⟨0,e,0,0⟩],⟨0,⟨d,[]⟩⟩,⟨1,[⟨0,13106,0⟩,⟨13107,26213,1⟩,⟨26214,39320,2⟩,⟨39321,52427,3⟩,⟨52428,65535,4⟩],[-1, -1, -1, -1, -1]⟩,e,k,i⟩,0):=by
 have hd:zcr 5 5=(⟨1,[⟨0,13106,0⟩,⟨13107,26213,1⟩,⟨26214,39320,2⟩,⟨39321,52427,3⟩,⟨52428,65535,4⟩],[-1, -1, -1, -1, -1]⟩,0):=by decide
 unfold zR;rw[zacX (by rw[q];decide)];simp only[hd];rfl
theorem z1t(c d l k i e:Int)(q:zJ ⟨5,5,c,d,l,k,i,e⟩=true):zg G zb7 [.d (zK ⟨5,5,c,d,l,k,i,e⟩)] []=some (.d (.tup [zi (zR ⟨5,5,c,d,l,k,i,e⟩).1,.int .i64 (zR ⟨5,5,c,d,l,k,i,e⟩).2]),[]):=by
 have hn:=z08;rw[zSs c d l k i e q];unfold zJ at q;simp only[zac7] at q;obtain⟨i1,i2,i3,i4,i5,i6,i7,i8⟩:=q;have h4:1<=d/\d<=24:=by simpa [inI] using i4
 have hz:=zcL d;rw[zacX zo,zacX zo] at hz;have hf:=zcC c;have hs0:=zaF c 0 13106;have hs1:=zaF c 13107 26213;have hs2:=zaF c 26214 39320;have hs3:=zaF c 39321 52427;have hs4:=zaF c 52428 65535;generalize zao c=rf at *;obtain⟨rf,ef⟩:=rf;simp only at *;generalize zG c 0 13106=r0 at *;obtain⟨r0,e0⟩:=r0;simp only at *;generalize zG c 13107 26213=r1 at *;obtain⟨r1,e1⟩:=r1;simp only at *;generalize zG c 26214 39320=r2 at *;obtain⟨r2,e2⟩:=r2;simp only at *;generalize zG c 39321 52427=r3 at *;obtain⟨r3,e3⟩:=r3;simp only at *;generalize zG c 52428 65535=r4 at *;obtain⟨r4,e4⟩:=r4;simp only at *;simp only[zk,zK,zi,zX,zU,zaw,zbE,zae,zB,zac1,zacZ] at *;exact zWa
end Go.Proofs.YtdnlddoeamjcoaaGreat
