/-
  Functions' ways, printed by a program: what each computes, and that this is what the interpreter computes.
-/
import Derived.Test.YtpdhhkfllkgahaaGreatDoorFQbq
import Derived.KernelRfl
set_option linter.all false
set_option maxRecDepth 10000
namespace Go.Proofs.YtpdhhkfllkgahaaGreatDoor
namespace Ab
variable [vo]
inductive S120 where
 |e (a:Int)(b:By)(c d e:Int)(f:Rs)(g i:Int)
 |h0 (a b c d e f g:By)(i j l m:Int)(n o:By)(p q:Int)(t:By)(u v w:Int)(x:Rs)(y z:Int)
 |h1 (a b c:Int)(d e:By)(f g i j:Int)(l m:By)(n:Int)(o:Rs)(p q:Int)
abbrev R120:=(Int×Int×Rs×Int)⊕(Int×Int×Int×By×By×Int×Rs×Int)
def qwh:R120→ARes
 |(.inl (a,b,_,_))=>.panic (.iface 109 (.agg #[.int .i64 a,.int .i64 b]))
 |(.inr (a,b,c,d,e,f,_,_))=>.ret (.ag [ic a,.nil,ic b,ic c,sc d,sc e,ic f])
def qw4 (b0_2:Int):R120→List (List Cell)
 |(.inl (_,_,a,b))=>[[.imm a,ic b,ic b0_2]]
 |(.inr (_,_,_,_,_,_,a,b))=>[[.imm a,ic b,ic b0_2]]
noncomputable def qwO (k:Nat)(rec:S120→Option R120):S120→Option R120
 |.e a b c d e f g i=>rec (.h0 (strB [67,79,85,78,84]) (strB [70,73,82,83,84]) (strB [76,65,83,84]) (strB [83,85,77]) (strB [77,73,78]) (strB [77,65,88]) (strB [77,69,65,78]) 0 0 0 0 (strB []) (strB []) 0 a b c d e f g i)
 |.h0 a b c d e f g i j l m n o p q t u v w x y z=>
  bif decide (i<7)then
   aixS [a,b,c,d,e,f,g] i fun a1=>
   bif !(a1.toList==t.toList)then
    rec (.h0 a b c d e f g (IntKind.i64.wrap (i+1)) j l m n o p q t u v w x y z)
   else
    (g115 k (strB [40]) x (IntKind.i64.wrap (y+1)) z).bind fun b1=>
    altC b1 (fun c1=>
      tup4 c1 fun d1 e1 f1 g1=>
      some (.inl (d1,e1,f1,g1))) (fun c1=>
      tup2 c1 fun f1 g1=>
      bif i==0 then
       (g119 k f1 g1 z).bind fun i1=>
       altC i1 (fun j1=>
         tup4 j1 fun l1 m1 n1 o1=>
         some (.inl (l1,m1,n1,o1))) (fun j1=>
         tup3 j1 fun p1 n1 o1=>
         rec (.h1 (IntKind.i64.wrap ((25:Int)+i)) 0 0 p1 (strB []) w j l m n o p n1 o1 z))
      else
       (g114 k f1 g1 z).bind fun i1=>
       altC i1 (fun j1=>
         tup4 j1 fun l1 m1 n1 o1=>
         some (.inl (l1,m1,n1,o1))) (fun j1=>
         tup4 j1 fun q1 t1 n1 o1=>
         rec (.h1 (IntKind.i64.wrap ((25:Int)+i)) 0 0 q1 t1 w j l m n o p n1 o1 z)))
  else
   some (.inl (w,13,x,y))
 |.h1 a b c d e f _ _ _ _ _ _ g i j=>
  (g115 k (strB [41]) g i j).bind fun l=>
  altC l (fun m=>
    tup4 m fun n o p q=>
    some (.inl (n,o,p,q))) (fun m=>
    tup2 m fun p q=>
    some (.inr (a,b,c,d,e,f,p,q)))
noncomputable def g120 (k:Nat)(a:Int)(b:By)(c d e:Int)(f:Rs)(g i:Int):Option R120:=itS qwO k (.e a b c d e f g i)
noncomputable def P120:S120→R120→Prop
 |.e a b c d e f g i,r=>Fin qxZ Tryz.f120 [.code qv4] (fr0 Tryz.f120 [pP 0,.ag [ic a,sc b,ic c,ic d,ic e]] [[.imm f,ic g,ic i]]) (qwh r) (qw4 i r)
 |.h0 a b c d e f g i j l m n o p q t u v w x y z,r=>Fin qxZ Tryz.f120 (kAt qv4 [1,0,1,0,4] []) ⟨[pP 0,.deadv,.deadv,pL 3,pL 4]++rep 3 .deadv++[.ag [sc a,sc b,sc c,sc d,sc e,sc f,sc g],.c (ic i)]++rep 41 .deadv,[(.loc 4,[ic j,.nil,ic l,ic m,sc n,sc o,ic p]),(.loc 3,[ic q,sc t,ic u,ic v,ic w]),(.par 0,[.imm x,ic y,ic z])]⟩ (qwh r) (qw4 z r)
 |.h1 a b c d e f g i j l m n o p q,r=>Fin qxZ Tryz.f120 (kAt qv4 [1,0,1,0,0,1,1,0,0,1,1,1,1,1,1,2] []) ⟨[pP 0]++rep 3 .deadv++[pL 4,.deadv,.deadv,pL 7]++rep 43 .deadv,[(.loc 7,[ic a,.nil,ic b,ic c,sc d,sc e,ic f]),(.loc 4,[ic g,.nil,ic i,ic j,sc l,sc m,ic n]),(.par 0,[.imm o,ic p,ic q])]⟩ (qwh r) (qw4 q r)
abbrev E120 (a:Int)(b:By)(c d e:Int)(f:Rs)(g i:Int)(r:R120):Prop:=Ev Tryz.prog noHand 120 [pP 0,.ag [ic a,sc b,ic c,ic d,ic e]] [[.imm f,ic g,ic i]] (qwh r) (qw4 i r)
theorem qyD {a:Int}{b:By}{c d e:Int}{f:Rs}{g i:Int}{r:R120}(h:P120 (.e a b c d e f g i) r):E120 a b c d e f g i r:=evF h
theorem qzv:∀ k s r,itS qwO k s=some r→P120 s r:=qF fun k rec ih s r h=>match s,h with
 |.e ..,h=>by exact mA 1 (ih _ _ h) 7 [] 51 2251799813684454
 |.h0 ..,h=>by
  rcases qa h with⟨a,h⟩|⟨a,h⟩
  ·
   obtain⟨_,b,h⟩:=qcW h;rcases qa h with⟨c,h⟩|⟨c,h⟩
   · exact mA 1 (ih _ _ h) 16 [tT 10 a,aA 12 b,tT 16 c] 51 2251799813684454
   ·
    obtain⟨_,d,h⟩:=qh h;replace h:=qf h;rcases h with⟨_,rfl,h⟩|⟨_,rfl,h⟩
    · replace h:=t4 h;cases h;exact mF 1 [tT 10 a,aA 12 b,tF 16 c,cA 25 (qu4 d)]
    ·
     replace h:=t2 h;rcases qa h with⟨e,h⟩|⟨e,h⟩
     · obtain⟨_,f,h⟩:=qh h;replace h:=qf h;rcases h with⟨_,rfl,h⟩|⟨_,rfl,h⟩
       · replace h:=t4 h;cases h;exact mF 1 [tT 10 a,aA 12 b,tF 16 c,cA 25 (qu4 d),tT 32 e,cA 34 (qvR f)]
       · replace h:=t3 h;exact mG 1 (ih _ _ h) 26 [tT 10 a,aA 12 b,tF 16 c,cA 25 (qu4 d),tT 32 e,cA 34 (qvR f)] 51 2251799813685102 [3] []
     · obtain⟨_,f,h⟩:=qh h;replace h:=qf h;rcases h with⟨_,rfl,h⟩|⟨_,rfl,h⟩
       · replace h:=t4 h;cases h;exact mF 1 [tT 10 a,aA 12 b,tF 16 c,cA 25 (qu4 d),tF 32 e,cA 38 (qw7 f)]
       · replace h:=t4 h;exact mG 1 (ih _ _ h) 26 [tT 10 a,aA 12 b,tF 16 c,cA 25 (qu4 d),tF 32 e,cA 38 (qw7 f)] 51 2251799813685102 [3] []
  · cases h;exact mF 1 [tF 10 a]
 |.h1 ..,h=>by
  obtain⟨_,a,h⟩:=qh h;replace h:=qf h;rcases h with⟨_,rfl,h⟩|⟨_,rfl,h⟩
  · replace h:=t4 h;cases h;exact mF 1 [cA 44 (qu4 a)]
  · replace h:=t2 h;cases h;exact mF 1 [cA 44 (qu4 a)]
theorem qyt {k:Nat}{a:Int}{b:By}{c d e:Int}{f:Rs}{g i:Int}{r:R120}(h:g120 k a b c d e f g i=some r):E120 a b c d e f g i r:=qyD (qzv _ _ _ h)
inductive S105 where
 |e (a:By)(b:Int)(c:Rs)(d e:Int)
 |h0 (a:Int)(b:Rs)(c d e:Int)(f:By)(g i j:Int)(l:Rs)(m n:Int)
 |h1 (a:Rs)(b c:Int)
abbrev R105:=Int×Rs
def qwg:R105→ARes
 |(r,_)=>.ret (.c (ic r))
def qw3 (b0_1:Int)(b0_2:Int):R105→List (List Cell)
 |(_,a)=>[[.imm a,ic b0_1,ic b0_2]]
noncomputable def qwK (k:Nat)(rec:S105→Option R105):S105→Option R105
 |.e a b c d e=>
  (g88 k c d e).bind fun f=>
  tup6 f fun g i j l m n=>
  bif g==6 then
   (YZ a).bind fun o=>
   rec (.h0 b o (o.length:Int) 0 g i j l m n d e)
  else
   rec (.h1 n d e)
 |.h0 a b c d e f g i j l m n=>
  bif decide (d<c)then
   ixR b d fun o=>
   un_s o fun p=>
   bif p.toList==f.toList then
    some (IntKind.i64.wrap (a+d),l)
   else
    rec (.h0 a b c (IntKind.i64.wrap (d+1)) e f g i j l m n)
  else
   rec (.h1 l m n)
 |.h1 a ..=>some (0,a)
noncomputable def g105 (k:Nat)(a:By)(b:Int)(c:Rs)(d e:Int):Option R105:=itS qwK k (.e a b c d e)
noncomputable def P105:S105→R105→Prop
 |.e a b c d e,r=>Fin qxX Tryz.f105 [.code qv2] (fr0 Tryz.f105 [pP 0,.c (sc a),.c (ic b)] [[.imm c,ic d,ic e]]) (qwg r) (qw3 d e r)
 |.h0 a b c d e f g i j l m n,r=>Fin qxX Tryz.f105 (kAt qv2 [1,1,0,1,0,1,0,4] []) ⟨[.deadv,.deadv,.c (ic a)]++rep 4 .deadv++[pL 7]++rep 8 .deadv++[.c (.imm b),.c (ic c),.c (ic d)]++rep 12 .deadv,[(.loc 7,[ic e,sc f,ic g,ic i,ic j]),(.par 0,[.imm l,ic m,ic n])]⟩ (qwg r) (qw3 m n r)
 |.h1 a b c,r=>Fin qxX Tryz.f105 (kAt qv2 [1,1,1,2] []) ⟨rep 31 .deadv,[(.par 0,[.imm a,ic b,ic c])]⟩ (qwg r) (qw3 b c r)
abbrev E105 (a:By)(b:Int)(c:Rs)(d e:Int)(r:R105):Prop:=Ev Tryz.prog noHand 105 [pP 0,.c (sc a),.c (ic b)] [[.imm c,ic d,ic e]] (qwg r) (qw3 d e r)
theorem qyz {a:By}{b:Int}{c:Rs}{d e:Int}{r:R105}(h:P105 (.e a b c d e) r):E105 a b c d e r:=evF h
theorem qzr:∀ k s r,itS qwK k s=some r→P105 s r:=qF fun k rec ih s r h=>match s,h with
 |.e ..,h=>by
  obtain⟨_,a,h⟩:=b6 h;rcases qa h with⟨b,h⟩|⟨b,h⟩
  · obtain⟨_,c,h⟩:=qh h;exact mA 1 (ih _ _ h) 12 [cA 11 (ev88 a),tT 14 b,cA 16 (qgF c)] 31 2147024763
  · exact mG 1 (ih _ _ h) 9 [cA 11 (ev88 a),tF 14 b] 31 2147483647 [7] []
 |.h0 ..,h=>by
  rcases qa h with⟨a,h⟩|⟨a,h⟩
  · obtain⟨_,b,h⟩:=YJ h;replace h:=qkP h;obtain⟨_,rfl,h⟩:=h;rcases qa h with⟨c,h⟩|⟨c,h⟩
    · cases h;exact mF 1 [tT 19 a,rA 21 b,tT 26 c]
    · exact mA 1 (ih _ _ h) 16 [tT 19 a,rA 21 b,tF 26 c] 31 2147024763
  · exact mG 1 (ih _ _ h) 6 [tF 19 a] 31 2147483647 [7] []
 |.h1 ..,h=>by cases h;exact mF 1 []
theorem qvl {k:Nat}{a:By}{b:Int}{c:Rs}{d e:Int}{r:R105}(h:g105 k a b c d e=some r):E105 a b c d e r:=qyz (qzr _ _ _ h)
inductive S63 where
 |e_63 (a:Rs)(b c:Int)
 |h0_63 (a:Int)(b:Rs)(c d:Int)(e f:By)(g i j l:Int)(m n:By)(o:Int)(p:Rs)(q t:Int)
 |h1_63 (a:Int)(b:Rs)(c d:Int)(e f:By)(g i j l:Int)(m n:By)(o:Int)(p:Rs)(q t:Int)
 |e_76 (a:Rs)(b c:Int)
 |h0_76 (a:Int)(b:Rs)(c d:Int)(e f:By)(g i j l:Int)(m n:By)(o:Int)(p:Rs)(q t:Int)
 |h1_76 (a:Int)(b:Rs)(c d:Int)(e f:By)(g i j l:Int)(m n:By)(o:Int)(p:Rs)(q t:Int)
 |e_87 (a:Rs)(b c:Int)
 |e_97 (a:Rs)(b c:Int)
 |e_104 (a:Rs)(b c:Int)
 |h0_104 (a:Int)(b:Rs)(c d:Int)(e f:By)(g i j l:Int)(m n:By)(o:Int)(p:Rs)(q t:Int)
 |h1_104 (a:Int)(b:Rs)(c d:Int)(e f:By)(g i j l:Int)(m n:By)(o:Int)(p:Rs)(q t:Int)
 |e_107 (a:Rs)(b c:Int)
 |h0_107 (a:Int)(b:Rs)(c d:Int)(e f:By)(g i j l:Int)(m n:By)(o:Int)(p:Rs)(q t:Int)
 |h1_107 (a:Int)(b:Rs)(c d:Int)(e f:By)(g i j l:Int)(m n:By)(o:Int)(p:Rs)(q t:Int)
 |e_109 (a:Rs)(b c:Int)
 |h0_109 (a:Int)(b:Rs)(c d:Int)(e f:By)(g:Int)(i:Rs)(j l:Int)
 |h1_109 (a:Int)(b:Rs)(c d:Int)(e f:By)(g:Int)(i:Rs)(j l:Int)
 |h2_109 (a:Int)(b:Rs)(c d:Int)(e f:By)(g:Int)(i:Rs)(j l:Int)
 |e_112 (a:Rs)(b c:Int)
 |h0_112 (a:Int)(b:Rs)(c d:Int)(e f:By)(g:Int)(i:Rs)(j l:Int)
 |h1_112 (a:Int)(b:Rs)(c d:Int)(e f:By)(g:Int)(i:Rs)(j l:Int)
 |h2_112 (a:Int)(b:Rs)(c d:Int)(e f:By)(g:Int)(i:Rs)(j l:Int)
 |h3_112 (a:Int)(b:Rs)(c d:Int)(e f:By)(g:Int)(i:Rs)(j l:Int)
 |h4_112 (a:Int)(b:Rs)(c d:Int)(e f:By)(g:Int)(i:Rs)(j l:Int)
 |h5_112 (a:Int)(b:By)(c d e f g i:Int)(j l:By)(m:Int)(n:Rs)(o p:Int)
 |h6_112 (a:Int)(b:Rs)(c d:Int)(e f:By)(g:Int)(i:Rs)(j l:Int)
 |e_116 (a:Int)(b:By)(c d e:Int)(f:Rs)(g i:Int)
 |h0_116 (a:By)(b:Bool)(c d e:Int)(f g:By)(i j:Int)(l:By)(m n o:Int)(p:Rs)(q t:Int)
 |h1_116 (a b c d:Int)(e f:By)(g i:Int)(j:By)(l m n:Int)(o:Rs)(p q:Int)
 |h2_116 (a:Bool)(b c d:Int)(e f:By)(g i:Int)(j:By)(l m n:Int)(o:Rs)(p q:Int)
 |h3_116 (a:Int)(b:Rs)(c d:Int)(e f:By)(g:Int)(i:Rs)(j l:Int)
 |h4_116 (a:Int)(b:Rs)(c d:Int)(e f:By)(g:Int)(i:Rs)(j l:Int)
 |h5_116 (a:Int)(b:Rs)(c d:Int)(e f:By)(g:Int)(i:Rs)(j l:Int)
 |e_78 (a b:Int)(c:Rs)(d e:Int)(f g:By)(i:Int)(j:Rs)(l m:Int)
 |e_78b (a b:Int)(c:Rs)(d e:Int)(f g:By)(i:Int)(j:Rs)(l m:Int)
 |e_78c (a b:Int)(c:Rs)(d e:Int)(f g:By)(i:Int)(j:Rs)(l m:Int)
 |e_78d (a b:Int)(c:Rs)(d e:Int)(f g:By)(i:Int)(j:Rs)(l m:Int)
 |e_78e (a b:Int)(c:Rs)(d e:Int)(f g:By)(i:Int)(j:Rs)(l m:Int)
abbrev xk:=(Int×Int×Rs×Int×Int)⊕(Int×Rs×Int×Int×By×By×Int×Rs×Int×Int)
abbrev qvB:=xk
abbrev qvm:=(Int×Int×Rs×Int×Int)⊕(Int×Rs×Int×Int×By×By×Int×Rs×Int×Int)⊕(Int×Rs×Int×Int×By×By×Int×Rs×Int×Int)
abbrev qvD:=xk
abbrev qvc:=xk
abbrev qvd:=xk
abbrev qve:=qvm
abbrev qvf:=qvm
abbrev qvg:=xk
abbrev qvC:=xk
abbrev qvh:=xk
abbrev qvi:=xk
abbrev qvj:=xk
abbrev qvk:=xk
abbrev R63:=xk⊕qvB⊕qvm⊕qvD⊕qvc⊕qvd⊕qve⊕qvf⊕qvg⊕qvC⊕qvh⊕qvi⊕qvj⊕qvk
def qwI (o:Option R63):Option xk:=o.bind fun|(.inl x)=>some x|_=>none
theorem qu3 {o:Option R63}{v:xk}(h:qwI o=some v):o=some (.inl v):=by
 cases o with
 |none=>cases h
 |some r=>
  unfold qwI at h;simp only[ae]at h;split at h
  · injection h with h;rw[h]
  · cases h
def qxf (o:Option R63):Option qvB:=o.bind fun|(.inr (.inl x))=>some x|_=>none
theorem qvA {o:Option R63}{v:qvB}(h:qxf o=some v):o=some (.inr (.inl v)):=by
 cases o with
 |none=>cases h
 |some r=>
  unfold qxf at h;simp only[ae]at h;split at h
  · injection h with h;rw[h]
  · cases h
def qhQ (o:Option R63):Option qvm:=o.bind fun|(.inr (.inr (.inl x)))=>some x|_=>none
theorem qfN {o:Option R63}{v:qvm}(h:qhQ o=some v):o=some (.inr (.inr (.inl v))):=by
 cases o with
 |none=>cases h
 |some r=>
  unfold qhQ at h;simp only[ae]at h;split at h
  · injection h with h;rw[h]
  · cases h
def qqs (o:Option R63):Option qvD:=o.bind fun|(.inr (.inr (.inr (.inl x))))=>some x|_=>none
theorem qpR {o:Option R63}{v:qvD}(h:qqs o=some v):o=some (.inr (.inr (.inr (.inl v)))):=by
 cases o with
 |none=>cases h
 |some r=>
  unfold qqs at h;simp only[ae]at h;split at h
  · injection h with h;rw[h]
  · cases h
def qoT (o:Option R63):Option qvc:=o.bind fun|(.inr (.inr (.inr (.inr (.inl x)))))=>some x|_=>none
theorem qoS {o:Option R63}{v:qvc}(h:qoT o=some v):o=some (.inr (.inr (.inr (.inr (.inl v))))):=by
 cases o with
 |none=>cases h
 |some r=>
  unfold qoT at h;simp only[ae]at h;split at h
  · injection h with h;rw[h]
  · cases h
def qwj (o:Option R63):Option qvd:=o.bind fun|(.inr (.inr (.inr (.inr (.inr (.inl x))))))=>some x|_=>none
theorem qvq {o:Option R63}{v:qvd}(h:qwj o=some v):o=some (.inr (.inr (.inr (.inr (.inr (.inl v)))))):=by
 cases o with
 |none=>cases h
 |some r=>
  unfold qwj at h;simp only[ae]at h;split at h
  · injection h with h;rw[h]
  · cases h
def qvY (o:Option R63):Option qve:=o.bind fun|(.inr (.inr (.inr (.inr (.inr (.inr (.inl x)))))))=>some x|_=>none
theorem ve {o:Option R63}{v:qve}(h:qvY o=some v):o=some (.inr (.inr (.inr (.inr (.inr (.inr (.inl v))))))):=by
 cases o with
 |none=>cases h
 |some r=>
  unfold qvY at h;simp only[ae]at h;split at h
  · injection h with h;rw[h]
  · cases h
def qps (o:Option R63):Option qvf:=o.bind fun|(.inr (.inr (.inr (.inr (.inr (.inr (.inr (.inl x))))))))=>some x|_=>none
theorem qpW {o:Option R63}{v:qvf}(h:qps o=some v):o=some (.inr (.inr (.inr (.inr (.inr (.inr (.inr (.inl v)))))))):=by
 cases o with
 |none=>cases h
 |some r=>
  unfold qps at h;simp only[ae]at h;split at h
  · injection h with h;rw[h]
  · cases h
def qwH (o:Option R63):Option qvg:=o.bind fun|(.inr (.inr (.inr (.inr (.inr (.inr (.inr (.inr (.inl x)))))))))=>some x|_=>none
theorem qvZ {o:Option R63}{v:qvg}(h:qwH o=some v):o=some (.inr (.inr (.inr (.inr (.inr (.inr (.inr (.inr (.inl v))))))))):=by
 cases o with
 |none=>cases h
 |some r=>
  unfold qwH at h;simp only[ae]at h;split at h
  · injection h with h;rw[h]
  · cases h
def ZC (o:Option R63):Option qvC:=o.bind fun|(.inr (.inr (.inr (.inr (.inr (.inr (.inr (.inr (.inr (.inl x))))))))))=>some x|_=>none
theorem xq {o:Option R63}{v:qvC}(h:ZC o=some v):o=some (.inr (.inr (.inr (.inr (.inr (.inr (.inr (.inr (.inr (.inl v)))))))))):=by
 cases o with
 |none=>cases h
 |some r=>
  unfold ZC at h;simp only[ae]at h;split at h
  · injection h with h;rw[h]
  · cases h
def qwk (o:Option R63):Option qvh:=o.bind fun|(.inr (.inr (.inr (.inr (.inr (.inr (.inr (.inr (.inr (.inr (.inl x)))))))))))=>some x|_=>none
theorem qvr {o:Option R63}{v:qvh}(h:qwk o=some v):o=some (.inr (.inr (.inr (.inr (.inr (.inr (.inr (.inr (.inr (.inr (.inl v))))))))))):=by
 cases o with
 |none=>cases h
 |some r=>
  unfold qwk at h;simp only[ae]at h;split at h
  · injection h with h;rw[h]
  · cases h
def qwJ (o:Option R63):Option qvi:=o.bind fun|(.inr (.inr (.inr (.inr (.inr (.inr (.inr (.inr (.inr (.inr (.inr (.inl x))))))))))))=>some x|_=>none
theorem qv0 {o:Option R63}{v:qvi}(h:qwJ o=some v):o=some (.inr (.inr (.inr (.inr (.inr (.inr (.inr (.inr (.inr (.inr (.inr (.inl v)))))))))))):=by
 cases o with
 |none=>cases h
 |some r=>
  unfold qwJ at h;simp only[ae]at h;split at h
  · injection h with h;rw[h]
  · cases h
def qwl (o:Option R63):Option qvj:=o.bind fun|(.inr (.inr (.inr (.inr (.inr (.inr (.inr (.inr (.inr (.inr (.inr (.inr (.inl x)))))))))))))=>some x|_=>none
theorem qvs {o:Option R63}{v:qvj}(h:qwl o=some v):o=some (.inr (.inr (.inr (.inr (.inr (.inr (.inr (.inr (.inr (.inr (.inr (.inr (.inl v))))))))))))):=by
 cases o with
 |none=>cases h
 |some r=>
  unfold qwl at h;simp only[ae]at h;split at h
  · injection h with h;rw[h]
  · cases h
def qwm (o:Option R63):Option qvk:=o.bind fun|(.inr (.inr (.inr (.inr (.inr (.inr (.inr (.inr (.inr (.inr (.inr (.inr (.inr x)))))))))))))=>some x|_=>none
theorem qvt {o:Option R63}{v:qvk}(h:qwm o=some v):o=some (.inr (.inr (.inr (.inr (.inr (.inr (.inr (.inr (.inr (.inr (.inr (.inr (.inr v))))))))))))):=by
 cases o with
 |none=>cases h
 |some r=>
  unfold qwm at h;simp only[ae]at h;split at h
  · injection h with h;rw[h]
  · cases h
def qrU:xk→ARes
 |(.inl (a,b,_,_,_))=>.panic (.iface 109 (.agg #[.int .i64 a,.int .i64 b]))
 |(.inr (a,b,c,d,e,f,g,_,_,_))=>.ret (.ag [ic a,.imm b,ic c,ic d,sc e,sc f,ic g])
def bx63:xk→List (List Cell)
 |(.inl (_,_,a,b,c))=>[[.imm a,ic b,ic c]]
 |(.inr (_,_,_,_,_,_,_,a,b,c))=>[[.imm a,ic b,ic c]]
def rs63:R63→ARes
 |(.inl x)=>qrU x
 |_=>.panic .nilIface
def bs63:R63→List (List Cell)
 |(.inl x)=>bx63 x
 |_=>[]
def qy0:qvB→ARes
 |(.inl (a,b,_,_,_))=>.panic (.iface 109 (.agg #[.int .i64 a,.int .i64 b]))
 |(.inr (a,b,c,d,e,f,g,_,_,_))=>.ret (.ag [ic a,.imm b,ic c,ic d,sc e,sc f,ic g])
def bx76:qvB→List (List Cell)
 |(.inl (_,_,a,b,c))=>[[.imm a,ic b,ic c]]
 |(.inr (_,_,_,_,_,_,_,a,b,c))=>[[.imm a,ic b,ic c]]
def rs76:R63→ARes
 |(.inr (.inl x))=>qy0 x
 |_=>.panic .nilIface
def bs76:R63→List (List Cell)
 |(.inr (.inl x))=>bx76 x
 |_=>[]
def qlA:qvm→ARes
 |(.inl (a,b,_,_,_))=>.panic (.iface 109 (.agg #[.int .i64 a,.int .i64 b]))
 |(.inr (.inl (a,b,c,d,e,f,g,_,_,_)))=>.ret (.ag [ic a,.imm b,ic c,ic d,sc e,sc f,ic g])
 |(.inr (.inr (a,b,c,d,e,f,g,_,_,_)))=>.ret (.ag [ic a,.own 7 b,ic c,ic d,sc e,sc f,ic g])
def bx87:qvm→List (List Cell)
 |(.inl (_,_,a,b,c))=>[[.imm a,ic b,ic c]]
 |(.inr (.inl (_,_,_,_,_,_,_,a,b,c)))=>[[.imm a,ic b,ic c]]
 |(.inr (.inr (_,_,_,_,_,_,_,a,b,c)))=>[[.imm a,ic b,ic c]]
def rs87:R63→ARes
 |(.inr (.inr (.inl x)))=>qlA x
 |_=>.panic .nilIface
def bs87:R63→List (List Cell)
 |(.inr (.inr (.inl x)))=>bx87 x
 |_=>[]
def qtV:qvD→ARes
 |(.inl (a,b,_,_,_))=>.panic (.iface 109 (.agg #[.int .i64 a,.int .i64 b]))
 |(.inr (a,b,c,d,e,f,g,_,_,_))=>.ret (.ag [ic a,.imm b,ic c,ic d,sc e,sc f,ic g])
def bx97:qvD→List (List Cell)
 |(.inl (_,_,a,b,c))=>[[.imm a,ic b,ic c]]
 |(.inr (_,_,_,_,_,_,_,a,b,c))=>[[.imm a,ic b,ic c]]
def rs97:R63→ARes
 |(.inr (.inr (.inr (.inl x))))=>qtV x
 |_=>.panic .nilIface
def bs97:R63→List (List Cell)
 |(.inr (.inr (.inr (.inl x))))=>bx97 x
 |_=>[]
def qsg:qvc→ARes
 |(.inl (a,b,_,_,_))=>.panic (.iface 109 (.agg #[.int .i64 a,.int .i64 b]))
 |(.inr (a,b,c,d,e,f,g,_,_,_))=>.ret (.ag [ic a,.imm b,ic c,ic d,sc e,sc f,ic g])
def qs4:qvc→List (List Cell)
 |(.inl (_,_,a,b,c))=>[[.imm a,ic b,ic c]]
 |(.inr (_,_,_,_,_,_,_,a,b,c))=>[[.imm a,ic b,ic c]]
def qrX:R63→ARes
 |(.inr (.inr (.inr (.inr (.inl x)))))=>qsg x
 |_=>.panic .nilIface
def qrG:R63→List (List Cell)
 |(.inr (.inr (.inr (.inr (.inl x)))))=>qs4 x
 |_=>[]
def qxu:qvd→ARes
 |(.inl (a,b,_,_,_))=>.panic (.iface 109 (.agg #[.int .i64 a,.int .i64 b]))
 |(.inr (a,b,c,d,e,f,g,_,_,_))=>.ret (.ag [ic a,.imm b,ic c,ic d,sc e,sc f,ic g])
def qyf:qvd→List (List Cell)
 |(.inl (_,_,a,b,c))=>[[.imm a,ic b,ic c]]
 |(.inr (_,_,_,_,_,_,_,a,b,c))=>[[.imm a,ic b,ic c]]
def qx3:R63→ARes
 |(.inr (.inr (.inr (.inr (.inr (.inl x))))))=>qxu x
 |_=>.panic .nilIface
def qxW:R63→List (List Cell)
 |(.inr (.inr (.inr (.inr (.inr (.inl x))))))=>qyf x
 |_=>[]
def qxv:qve→ARes
 |(.inl (a,b,_,_,_))=>.panic (.iface 109 (.agg #[.int .i64 a,.int .i64 b]))
 |(.inr (.inl (a,b,c,d,e,f,g,_,_,_)))=>.ret (.ag [ic a,.own 7 b,ic c,ic d,sc e,sc f,ic g])
 |(.inr (.inr (a,b,c,d,e,f,g,_,_,_)))=>.ret (.ag [ic a,.imm b,ic c,ic d,sc e,sc f,ic g])
def qyg:qve→List (List Cell)
 |(.inl (_,_,a,b,c))=>[[.imm a,ic b,ic c]]
 |(.inr (.inl (_,_,_,_,_,_,_,a,b,c)))=>[[.imm a,ic b,ic c]]
 |(.inr (.inr (_,_,_,_,_,_,_,a,b,c)))=>[[.imm a,ic b,ic c]]
def qxe:R63→ARes
 |(.inr (.inr (.inr (.inr (.inr (.inr (.inl x)))))))=>qxv x
 |_=>.panic .nilIface
def qw2:R63→List (List Cell)
 |(.inr (.inr (.inr (.inr (.inr (.inr (.inl x)))))))=>qyg x
 |_=>[]
def qsh:qvf→ARes
 |(.inl (a,b,_,_,_))=>.panic (.iface 109 (.agg #[.int .i64 a,.int .i64 b]))
 |(.inr (.inl (a,b,c,d,e,f,g,_,_,_)))=>.ret (.ag [ic a,.imm b,ic c,ic d,sc e,sc f,ic g])
 |(.inr (.inr (a,b,c,d,e,f,g,_,_,_)))=>.ret (.ag [ic a,.own 7 b,ic c,ic d,sc e,sc f,ic g])
def qs5:qvf→List (List Cell)
 |(.inl (_,_,a,b,c))=>[[.imm a,ic b,ic c]]
 |(.inr (.inl (_,_,_,_,_,_,_,a,b,c)))=>[[.imm a,ic b,ic c]]
 |(.inr (.inr (_,_,_,_,_,_,_,a,b,c)))=>[[.imm a,ic b,ic c]]
def qqm:R63→ARes
 |(.inr (.inr (.inr (.inr (.inr (.inr (.inr (.inl x))))))))=>qsh x
 |_=>.panic .nilIface
def qqe:R63→List (List Cell)
 |(.inr (.inr (.inr (.inr (.inr (.inr (.inr (.inl x))))))))=>qs5 x
 |_=>[]
def qsi:qvg→ARes
 |(.inl (a,b,_,_,_))=>.panic (.iface 109 (.agg #[.int .i64 a,.int .i64 b]))
 |(.inr (a,b,c,d,e,f,g,_,_,_))=>.ret (.ag [ic a,.own 7 b,ic c,ic d,sc e,sc f,ic g])
def qs6:qvg→List (List Cell)
 |(.inl (_,_,a,b,c))=>[[.imm a,ic b,ic c]]
 |(.inr (_,_,_,_,_,_,_,a,b,c))=>[[.imm a,ic b,ic c]]
def qwa:R63→ARes
 |(.inr (.inr (.inr (.inr (.inr (.inr (.inr (.inr (.inl x)))))))))=>qsi x
 |_=>.panic .nilIface
def qv5:R63→List (List Cell)
 |(.inr (.inr (.inr (.inr (.inr (.inr (.inr (.inr (.inl x)))))))))=>qs6 x
 |_=>[]
def qma:qvC→ARes
 |(.inl (a,b,_,_,_))=>.panic (.iface 109 (.agg #[.int .i64 a,.int .i64 b]))
 |(.inr (a,b,c,d,e,f,g,_,_,_))=>.ret (.ag [ic a,.own 7 b,ic c,ic d,sc e,sc f,ic g])
def bx78:qvC→List (List Cell)
 |(.inl (_,_,a,b,c))=>[[.imm a,ic b,ic c]]
 |(.inr (_,_,_,_,_,_,_,a,b,c))=>[[.imm a,ic b,ic c]]
def rs78:R63→ARes
 |(.inr (.inr (.inr (.inr (.inr (.inr (.inr (.inr (.inr (.inl x))))))))))=>qma x
 |_=>.panic .nilIface
def bs78:R63→List (List Cell)
 |(.inr (.inr (.inr (.inr (.inr (.inr (.inr (.inr (.inr (.inl x))))))))))=>bx78 x
 |_=>[]
def qxE:qvh→ARes
 |(.inl (a,b,_,_,_))=>.panic (.iface 109 (.agg #[.int .i64 a,.int .i64 b]))
 |(.inr (a,b,c,d,e,f,g,_,_,_))=>.ret (.ag [ic a,.own 7 b,ic c,ic d,sc e,sc f,ic g])
def qyp:qvh→List (List Cell)
 |(.inl (_,_,a,b,c))=>[[.imm a,ic b,ic c]]
 |(.inr (_,_,_,_,_,_,_,a,b,c))=>[[.imm a,ic b,ic c]]
def qzF:R63→ARes
 |(.inr (.inr (.inr (.inr (.inr (.inr (.inr (.inr (.inr (.inr (.inl x)))))))))))=>qxE x
 |_=>.panic .nilIface
def qy7:R63→List (List Cell)
 |(.inr (.inr (.inr (.inr (.inr (.inr (.inr (.inr (.inr (.inr (.inl x)))))))))))=>qyp x
 |_=>[]
def qxF:qvi→ARes
 |(.inl (a,b,_,_,_))=>.panic (.iface 109 (.agg #[.int .i64 a,.int .i64 b]))
 |(.inr (a,b,c,d,e,f,g,_,_,_))=>.ret (.ag [ic a,.own 7 b,ic c,ic d,sc e,sc f,ic g])
def qyq:qvi→List (List Cell)
 |(.inl (_,_,a,b,c))=>[[.imm a,ic b,ic c]]
 |(.inr (_,_,_,_,_,_,_,a,b,c))=>[[.imm a,ic b,ic c]]
def qzG:R63→ARes
 |(.inr (.inr (.inr (.inr (.inr (.inr (.inr (.inr (.inr (.inr (.inr (.inl x))))))))))))=>qxF x
 |_=>.panic .nilIface
def qy8:R63→List (List Cell)
 |(.inr (.inr (.inr (.inr (.inr (.inr (.inr (.inr (.inr (.inr (.inr (.inl x))))))))))))=>qyq x
 |_=>[]
def qxG:qvj→ARes
 |(.inl (a,b,_,_,_))=>.panic (.iface 109 (.agg #[.int .i64 a,.int .i64 b]))
 |(.inr (a,b,c,d,e,f,g,_,_,_))=>.ret (.ag [ic a,.own 7 b,ic c,ic d,sc e,sc f,ic g])
def qyr:qvj→List (List Cell)
 |(.inl (_,_,a,b,c))=>[[.imm a,ic b,ic c]]
 |(.inr (_,_,_,_,_,_,_,a,b,c))=>[[.imm a,ic b,ic c]]
def qzH:R63→ARes
 |(.inr (.inr (.inr (.inr (.inr (.inr (.inr (.inr (.inr (.inr (.inr (.inr (.inl x)))))))))))))=>qxG x
 |_=>.panic .nilIface
def qy9:R63→List (List Cell)
 |(.inr (.inr (.inr (.inr (.inr (.inr (.inr (.inr (.inr (.inr (.inr (.inr (.inl x)))))))))))))=>qyr x
 |_=>[]
def qxH:qvk→ARes
 |(.inl (a,b,_,_,_))=>.panic (.iface 109 (.agg #[.int .i64 a,.int .i64 b]))
 |(.inr (a,b,c,d,e,f,g,_,_,_))=>.ret (.ag [ic a,.own 7 b,ic c,ic d,sc e,sc f,ic g])
def qys:qvk→List (List Cell)
 |(.inl (_,_,a,b,c))=>[[.imm a,ic b,ic c]]
 |(.inr (_,_,_,_,_,_,_,a,b,c))=>[[.imm a,ic b,ic c]]
def qzI:R63→ARes
 |(.inr (.inr (.inr (.inr (.inr (.inr (.inr (.inr (.inr (.inr (.inr (.inr (.inr x)))))))))))))=>qxH x
 |_=>.panic .nilIface
def qza:R63→List (List Cell)
 |(.inr (.inr (.inr (.inr (.inr (.inr (.inr (.inr (.inr (.inr (.inr (.inr (.inr x)))))))))))))=>qys x
 |_=>[]
noncomputable def qpc (k:Nat)(rec:S63→Option R63):S63→Option R63
 |.e_63 a b c=>
  (qxf (rec (.e_76 a b c))).bind fun d=>
  altC d (fun e=>
    tup5 e fun f g i j l=>
    some (.inl (.inl (f,g,i,j,l)))) (fun e=>
    ql e fun m n o p q t u i j l=>
    rec (.h0_63 m n o p q t u 0 0 0 (strB []) (strB []) 0 i j l))
 |.h0_63 a b c d e f g i j l m n o p q t=>
  (g77 k (strB [79,82]) p q t).bind fun u=>
  tup2 u fun v w=>
  bif v then
   (qwm (rec (.e_78e 14 a b c d e f g w q t))).bind fun x=>
   altC x (fun y=>
     tup5 y fun z a1 b1 c1 d1=>
     some (.inl (.inl (z,a1,b1,c1,d1)))) (fun y=>
     ql y fun e1 f1 g1 i1 j1 l1 m1 b1 c1 d1=>
     rec (.h1_63 e1 f1 g1 i1 j1 l1 m1 i j l m n o b1 c1 d1))
  else
   some (.inl (.inr (a,b,c,d,e,f,g,w,q,t)))
 |.h1_63 a b c d e f g i j l m n o p q t=>
  (g77 k (strB [79,82]) p q t).bind fun u=>
  tup2 u fun v w=>
  bif v then
   (qwm (rec (.e_78e 14 a (qG b) c d e f g w q t))).bind fun x=>
   altC x (fun y=>
     tup5 y fun z a1 b1 c1 d1=>
     some (.inl (.inl (z,a1,b1,c1,d1)))) (fun y=>
     ql y fun e1 f1 g1 i1 j1 l1 m1 b1 c1 d1=>
     rec (.h1_63 e1 f1 g1 i1 j1 l1 m1 i j l m n o b1 c1 d1))
  else
   some (.inl (.inr (a,qG b,c,d,e,f,g,w,q,t)))
 |.e_76 a b c=>
  (qhQ (rec (.e_87 a b c))).bind fun d=>
  altC d (fun e=>
    tup5 e fun f g i j l=>
    some (.inr (.inl (.inl (f,g,i,j,l))))) (fun m=>altC m (fun e=>
    ql e fun n o p q t u v i j l=>
    rec (.h0_76 n o p q t u v 0 0 0 (strB []) (strB []) 0 i j l)) (fun e=>
    ql e fun n o p q t u v i j l=>
    rec (.h1_76 n o p q t u v 0 0 0 (strB []) (strB []) 0 i j l)))
 |.h0_76 a b c d e f g i j l m n o p q t=>
  (g77 k (strB [65,78,68]) p q t).bind fun u=>
  tup2 u fun v w=>
  bif v then
   (qwl (rec (.e_78d 13 a b c d e f g w q t))).bind fun x=>
   altC x (fun y=>
     tup5 y fun z a1 b1 c1 d1=>
     some (.inr (.inl (.inl (z,a1,b1,c1,d1))))) (fun y=>
     ql y fun e1 f1 g1 i1 j1 l1 m1 b1 c1 d1=>
     rec (.h1_76 e1 f1 g1 i1 j1 l1 m1 i j l m n o b1 c1 d1))
  else
   some (.inr (.inl (.inr (a,b,c,d,e,f,g,w,q,t))))
 |.h1_76 a b c d e f g i j l m n o p q t=>
  (g77 k (strB [65,78,68]) p q t).bind fun u=>
  tup2 u fun v w=>
  bif v then
   (qwl (rec (.e_78d 13 a (qG b) c d e f g w q t))).bind fun x=>
   altC x (fun y=>
     tup5 y fun z a1 b1 c1 d1=>
     some (.inr (.inl (.inl (z,a1,b1,c1,d1))))) (fun y=>
     ql y fun e1 f1 g1 i1 j1 l1 m1 b1 c1 d1=>
     rec (.h1_76 e1 f1 g1 i1 j1 l1 m1 i j l m n o b1 c1 d1))
  else
   some (.inr (.inl (.inr (a,qG b,c,d,e,f,g,w,q,t))))
 |.e_87 a b c=>
  (g77 k (strB [78,79,84]) a b c).bind fun d=>
  tup2 d fun e f=>
  bif !e then
   (qqs (rec (.e_97 f b c))).bind fun g=>
   altC g (fun i=>
     tup5 i fun j l m n o=>
     some (.inr (.inr (.inl (.inl (j,l,m,n,o)))))) (fun i=>
     ql i fun p q t u v w x m n o=>
     some (.inr (.inr (.inl (.inr (.inl (p,q,t,u,v,w,x,m,n,o)))))))
  else
   (g98 k f b c).bind fun g=>
   altC g (fun i=>
     tup5 i fun j l m n o=>
     some (.inr (.inr (.inl (.inl (j,l,m,n,o)))))) (fun i=>
     tup4 i fun y m n o=>
     (qhQ (rec (.e_87 m n o))).bind fun z=>
     altC z (fun a1=>
       tup5 a1 fun b1 c1 d1 e1 f1=>
       some (.inr (.inr (.inl (.inl (b1,c1,d1,e1,f1)))))) (fun g1=>altC g1 (fun a1=>
       ql a1 fun i1 j1 l1 m1 n1 o1 p1 d1 e1 f1=>
       some (.inr (.inr (.inl (.inr (.inr (15,[[ic i1,.imm j1,ic l1,ic m1,sc n1,sc o1,ic p1]],0,0,strB [],strB [],y,d1,e1,IntKind.i64.wrap (f1-1)))))))) (fun a1=>
       ql a1 fun i1 j1 l1 m1 n1 o1 p1 d1 e1 f1=>
       some (.inr (.inr (.inl (.inr (.inr (15,[[ic i1,.imm (qG j1),ic l1,ic m1,sc n1,sc o1,ic p1]],0,0,strB [],strB [],y,d1,e1,IntKind.i64.wrap (f1-1))))))))))
 |.e_97 a b c=>
  (qoT (rec (.e_104 a b c))).bind fun d=>
  altC d (fun e=>
    tup5 e fun f g i j l=>
    some (.inr (.inr (.inr (.inl (.inl (f,g,i,j,l))))))) (fun e=>
    ql e fun m n o p q t u i j l=>
    (g105 k (strB [61,32,33,61,32,60,32,60,61,32,62,32,62,61]) 7 i j l).bind fun v=>
    tup2 v fun w x=>
    bif w != 0 then
     (qwJ (rec (.e_78c w m n o p q t u x j l))).bind fun y=>
     altC y (fun z=>
       tup5 z fun a1 b1 c1 d1 e1=>
       some (.inr (.inr (.inr (.inl (.inl (a1,b1,c1,d1,e1))))))) (fun z=>
       ql z fun f1 g1 i1 j1 l1 m1 n1 c1 d1 e1=>
       some (.inr (.inr (.inr (.inl (.inr (f1,qG g1,i1,j1,l1,m1,n1,c1,d1,e1)))))))
    else
     some (.inr (.inr (.inr (.inl (.inr (m,n,o,p,q,t,u,x,j,l)))))))
 |.e_104 a b c=>
  (qwj (rec (.e_107 a b c))).bind fun d=>
  altC d (fun e=>
    tup5 e fun f g i j l=>
    some (.inr (.inr (.inr (.inr (.inl (.inl (f,g,i,j,l)))))))) (fun e=>
    ql e fun m n o p q t u i j l=>
    rec (.h0_104 m n o p q t u 0 0 0 (strB []) (strB []) 0 i j l))
 |.h0_104 a b c d e f g i j l m n o p q t=>
  (g105 k (strB [43,32,45]) 1 p q t).bind fun u=>
  tup2 u fun v w=>
  bif v==0 then
   some (.inr (.inr (.inr (.inr (.inl (.inr (a,b,c,d,e,f,g,w,q,t)))))))
  else
   (qwk (rec (.e_78b v a b c d e f g w q t))).bind fun x=>
   altC x (fun y=>
     tup5 y fun z a1 b1 c1 d1=>
     some (.inr (.inr (.inr (.inr (.inl (.inl (z,a1,b1,c1,d1)))))))) (fun y=>
     ql y fun e1 f1 g1 i1 j1 l1 m1 b1 c1 d1=>
     rec (.h1_104 e1 f1 g1 i1 j1 l1 m1 i j l m n o b1 c1 d1))
 |.h1_104 a b c d e f g i j l m n o p q t=>
  (g105 k (strB [43,32,45]) 1 p q t).bind fun u=>
  tup2 u fun v w=>
  bif v==0 then
   some (.inr (.inr (.inr (.inr (.inl (.inr (a,qG b,c,d,e,f,g,w,q,t)))))))
  else
   (qwk (rec (.e_78b v a (qG b) c d e f g w q t))).bind fun x=>
   altC x (fun y=>
     tup5 y fun z a1 b1 c1 d1=>
     some (.inr (.inr (.inr (.inr (.inl (.inl (z,a1,b1,c1,d1)))))))) (fun y=>
     ql y fun e1 f1 g1 i1 j1 l1 m1 b1 c1 d1=>
     rec (.h1_104 e1 f1 g1 i1 j1 l1 m1 i j l m n o b1 c1 d1))
 |.e_107 a b c=>
  (qvY (rec (.e_109 a b c))).bind fun d=>
  altC d (fun e=>
    tup5 e fun f g i j l=>
    some (.inr (.inr (.inr (.inr (.inr (.inl (.inl (f,g,i,j,l))))))))) (fun m=>altC m (fun e=>
    ql e fun n o p q t u v i j l=>
    rec (.h0_107 n o p q t u v 0 0 0 (strB []) (strB []) 0 i j l)) (fun e=>
    ql e fun n o p q t u v i j l=>
    rec (.h1_107 n o p q t u v 0 0 0 (strB []) (strB []) 0 i j l)))
 |.h0_107 a b c d e f g i j l m n o p q t=>
  (g105 k (strB [42,32,47,32,37]) 3 p q t).bind fun u=>
  tup2 u fun v w=>
  bif v==0 then
   some (.inr (.inr (.inr (.inr (.inr (.inl (.inr (a,qG b,c,d,e,f,g,w,q,t))))))))
  else
   (ZC (rec (.e_78 v a (qG b) c d e f g w q t))).bind fun x=>
   altC x (fun y=>
     tup5 y fun z a1 b1 c1 d1=>
     some (.inr (.inr (.inr (.inr (.inr (.inl (.inl (z,a1,b1,c1,d1))))))))) (fun y=>
     ql y fun e1 f1 g1 i1 j1 l1 m1 b1 c1 d1=>
     rec (.h0_107 e1 f1 g1 i1 j1 l1 m1 i j l m n o b1 c1 d1))
 |.h1_107 a b c d e f g i j l m n o p q t=>
  (g105 k (strB [42,32,47,32,37]) 3 p q t).bind fun u=>
  tup2 u fun v w=>
  bif v==0 then
   some (.inr (.inr (.inr (.inr (.inr (.inl (.inr (a,b,c,d,e,f,g,w,q,t))))))))
  else
   (ZC (rec (.e_78 v a b c d e f g w q t))).bind fun x=>
   altC x (fun y=>
     tup5 y fun z a1 b1 c1 d1=>
     some (.inr (.inr (.inr (.inr (.inr (.inl (.inl (z,a1,b1,c1,d1))))))))) (fun y=>
     ql y fun e1 f1 g1 i1 j1 l1 m1 b1 c1 d1=>
     rec (.h0_107 e1 f1 g1 i1 j1 l1 m1 i j l m n o b1 c1 d1))
 |.e_109 a b c=>
  (g77 k (strB [45]) a b c).bind fun d=>
  tup2 d fun e f=>
  bif !e then
   (qps (rec (.e_112 f b c))).bind fun g=>
   altC g (fun i=>
     tup5 i fun j l m n o=>
     some (.inr (.inr (.inr (.inr (.inr (.inr (.inl (.inl (j,l,m,n,o)))))))))) (fun p=>altC p (fun i=>
     ql i fun q t u v w x y m n o=>
     rec (.h0_109 q t u v w x y m n o)) (fun i=>
     ql i fun q t u v w x y m n o=>
     rec (.h1_109 q t u v w x y m n o)))
  else
   (g98 k f b c).bind fun g=>
   altC g (fun i=>
     tup5 i fun j l m n o=>
     some (.inr (.inr (.inr (.inr (.inr (.inr (.inl (.inl (j,l,m,n,o)))))))))) (fun i=>
     tup4 i fun z m n o=>
     (qvY (rec (.e_109 m n o))).bind fun a1=>
     altC a1 (fun b1=>
       tup5 b1 fun c1 d1 e1 f1 g1=>
       some (.inr (.inr (.inr (.inr (.inr (.inr (.inl (.inl (c1,d1,e1,f1,g1)))))))))) (fun i1=>altC i1 (fun b1=>
       ql b1 fun j1 l1 m1 n1 o1 p1 q1 e1 f1 g1=>
       rec (.h2_109 6 [[ic j1,.imm (qG l1),ic m1,ic n1,sc o1,sc p1,ic q1]] 0 0 (strB []) (strB []) z e1 f1 (IntKind.i64.wrap (g1-1)))) (fun b1=>
       ql b1 fun j1 l1 m1 n1 o1 p1 q1 e1 f1 g1=>
       rec (.h2_109 6 [[ic j1,.imm l1,ic m1,ic n1,sc o1,sc p1,ic q1]] 0 0 (strB []) (strB []) z e1 f1 (IntKind.i64.wrap (g1-1))))))
 |.h0_109 a b c d e f g i j l=>some (.inr (.inr (.inr (.inr (.inr (.inr (.inl (.inr (.inr (a,b,c,d,e,f,g,i,j,l))))))))))
 |.h1_109 a b c d e f g i j l=>some (.inr (.inr (.inr (.inr (.inr (.inr (.inl (.inr (.inl (a,b,c,d,e,f,g,i,j,l))))))))))
 |.h2_109 a b c d e f g i j l=>some (.inr (.inr (.inr (.inr (.inr (.inr (.inl (.inr (.inl (a,b,c,d,e,f,g,i,j,l))))))))))
 |.e_112 a b c=>
  (g88 k a b c).bind fun d=>
  tup6 d fun e f g i j l=>
  bif e==3 then
   rec (.h0_112 20 [] g 0 (strB []) (strB []) j l (IntKind.i64.wrap (b+1)) c)
  else
   bif e==4 then
    rec (.h1_112 21 [] g i (strB []) (strB []) j l (IntKind.i64.wrap (b+1)) c)
   else
    bif e==5 then
     rec (.h2_112 23 [] 0 0 f (strB []) j l (IntKind.i64.wrap (b+1)) c)
    else
     bif e==2 then
      (g114 k l b c).bind fun m=>
      altC m (fun n=>
        tup4 n fun o p q t=>
        some (.inr (.inr (.inr (.inr (.inr (.inr (.inr (.inl (.inl (o,p,q,t,c))))))))))) (fun n=>
        tup4 n fun u v q t=>
        rec (.h3_112 24 [] 0 0 u v j q t c))
     else
      bif e==6 then
       bif f.toList==(strB [40]).toList then
        (g98 k l b c).bind fun n=>
        altC n (fun w=>
          tup5 w fun x y z a1 b1=>
          some (.inr (.inr (.inr (.inr (.inr (.inr (.inr (.inl (.inl (x,y,z,a1,b1))))))))))) (fun w=>
          tup4 w fun _ z a1 b1=>
          (qwI (rec (.e_63 z a1 b1))).bind fun c1=>
          altC c1 (fun d1=>
            tup5 d1 fun e1 f1 g1 i1 j1=>
            some (.inr (.inr (.inr (.inr (.inr (.inr (.inr (.inl (.inl (e1,f1,g1,i1,j1))))))))))) (fun d1=>
            ql d1 fun l1 m1 n1 o1 p1 q1 t1 g1 i1 j1=>
            (g115 k (strB [41]) g1 i1 j1).bind fun u1=>
            altC u1 (fun v1=>
              tup4 v1 fun w1 x1 y1 z1=>
              some (.inr (.inr (.inr (.inr (.inr (.inr (.inr (.inl (.inl (w1,x1,y1,z1,j1))))))))))) (fun v1=>
              tup2 v1 fun y1 z1=>
              rec (.h4_112 l1 m1 n1 o1 p1 q1 t1 y1 z1 (IntKind.i64.wrap (j1-1))))))
       else
        rec (.h5_112 e f g i j 0 0 0 (strB []) (strB []) 0 l b c)
      else
       bif e==1 then
        (qwH (rec (.e_116 e f g i j l b c))).bind fun n=>
        altC n (fun w=>
          tup5 w fun x y z a1 b1=>
          some (.inr (.inr (.inr (.inr (.inr (.inr (.inr (.inl (.inl (x,y,z,a1,b1))))))))))) (fun w=>
          ql w fun a2 b2 c2 d2 e2 f2 g2 z a1 b1=>
          rec (.h6_112 a2 b2 c2 d2 e2 f2 g2 z a1 b1))
       else
        rec (.h5_112 e f g i j 0 0 0 (strB []) (strB []) 0 l b c)
 |.h0_112 a b c d e f g i j l=>some (.inr (.inr (.inr (.inr (.inr (.inr (.inr (.inl (.inr (.inl (a,b,c,d,e,f,g,i,j,l)))))))))))
 |.h1_112 a b c d e f g i j l=>some (.inr (.inr (.inr (.inr (.inr (.inr (.inr (.inl (.inr (.inl (a,b,c,d,e,f,g,i,j,l)))))))))))
 |.h2_112 a b c d e f g i j l=>some (.inr (.inr (.inr (.inr (.inr (.inr (.inr (.inl (.inr (.inl (a,b,c,d,e,f,g,i,j,l)))))))))))
 |.h3_112 a b c d e f g i j l=>some (.inr (.inr (.inr (.inr (.inr (.inr (.inr (.inl (.inr (.inl (a,b,c,d,e,f,g,i,j,l)))))))))))
 |.h4_112 a b c d e f g i j l=>some (.inr (.inr (.inr (.inr (.inr (.inr (.inr (.inl (.inr (.inl (a,b,c,d,e,f,g,i,j,l)))))))))))
 |.h5_112 _ _ _ _ a _ _ _ _ _ _ b c d=>some (.inr (.inr (.inr (.inr (.inr (.inr (.inr (.inl (.inl (a,13,b,c,d))))))))))
 |.h6_112 a b c d e f g i j l=>some (.inr (.inr (.inr (.inr (.inr (.inr (.inr (.inl (.inr (.inr (a,b,c,d,e,f,g,i,j,l)))))))))))
 |.e_116 a b c d e f g i=>
  bif b.toList==(strB [84,82,85,69]).toList then
   rec (.h0_116 b true 0 0 0 (strB []) (strB []) 0 a b c d e f g i)
  else
   rec (.h0_116 b (b.toList==(strB [70,65,76,83,69]).toList) 0 0 0 (strB []) (strB []) 0 a b c d e f g i)
 |.h0_116 a b c d e f g i j l m n o p q t=>
  bif b then
   bif l.toList==(strB [84,82,85,69]).toList then
    rec (.h1_116 1 c d e f g i j l m n o p (IntKind.i64.wrap (q+1)) t)
   else
    rec (.h1_116 0 c d e f g i j l m n o p (IntKind.i64.wrap (q+1)) t)
  else
   bif a.toList==(strB [82,69,65,76]).toList then
    rec (.h2_116 true c d e f g i j l m n o p q t)
   else
    rec (.h2_116 (a.toList==(strB [73,83,78,65,78]).toList) c d e f g i j l m n o p q t)
 |.h1_116 a _ _ _ _ _ _ _ _ _ _ b c d e=>rec (.h3_116 22 [] a 0 (strB []) (strB []) b c d e)
 |.h2_116 a _ _ _ _ _ _ b c d e f g i j=>
  bif a then
   (g98 k g i j).bind fun l=>
   altC l (fun m=>
     tup5 m fun n o p q t=>
     some (.inr (.inr (.inr (.inr (.inr (.inr (.inr (.inr (.inl (.inl (n,o,p,q,t)))))))))))) (fun m=>
     tup4 m fun _ p q t=>
     (g115 k (strB [40]) p q t).bind fun u=>
     altC u (fun v=>
       tup4 v fun w x y z=>
       some (.inr (.inr (.inr (.inr (.inr (.inr (.inr (.inr (.inl (.inl (w,x,y,z,t)))))))))))) (fun v=>
       tup2 v fun y z=>
       (qwI (rec (.e_63 y z t))).bind fun a1=>
       altC a1 (fun b1=>
         tup5 b1 fun c1 d1 e1 f1 g1=>
         some (.inr (.inr (.inr (.inr (.inr (.inr (.inr (.inr (.inl (.inl (c1,d1,e1,f1,g1)))))))))))) (fun b1=>
         ql b1 fun i1 j1 l1 m1 n1 o1 p1 e1 f1 g1=>
         (g115 k (strB [41]) e1 f1 g1).bind fun q1=>
         altC q1 (fun t1=>
           tup4 t1 fun u1 v1 w1 x1=>
           some (.inr (.inr (.inr (.inr (.inr (.inr (.inr (.inr (.inl (.inl (u1,v1,w1,x1,g1)))))))))))) (fun t1=>
           tup2 t1 fun w1 x1=>
           bif c.toList==(strB [73,83,78,65,78]).toList then
            rec (.h4_116 17 [[ic i1,.imm j1,ic l1,ic m1,sc n1,sc o1,ic p1]] 0 0 (strB []) (strB []) f w1 x1 (IntKind.i64.wrap (g1-1)))
           else
            rec (.h4_116 16 [[ic i1,.imm j1,ic l1,ic m1,sc n1,sc o1,ic p1]] 0 0 (strB []) (strB []) f w1 x1 (IntKind.i64.wrap (g1-1)))))))
  else
   (g120 k b c d e f g i j).bind fun l=>
   altC l (fun m=>
     tup4 m fun n o p q=>
     some (.inr (.inr (.inr (.inr (.inr (.inr (.inr (.inr (.inl (.inl (n,o,p,q,j)))))))))))) (fun m=>
     tup8 m fun y1 z1 a2 b2 c2 d2 p q=>
     rec (.h5_116 y1 [] z1 a2 b2 c2 d2 p q j))
 |.h3_116 a b c d e f g i j l=>some (.inr (.inr (.inr (.inr (.inr (.inr (.inr (.inr (.inl (.inr (a,b,c,d,e,f,g,i,j,l)))))))))))
 |.h4_116 a b c d e f g i j l=>some (.inr (.inr (.inr (.inr (.inr (.inr (.inr (.inr (.inl (.inr (a,b,c,d,e,f,g,i,j,l)))))))))))
 |.h5_116 a b c d e f g i j l=>some (.inr (.inr (.inr (.inr (.inr (.inr (.inr (.inr (.inl (.inr (a,b,c,d,e,f,g,i,j,l)))))))))))
 |.e_78 a b c d e f g i j l m=>
  (g88 k j l m).bind fun n=>
  tup6 n fun _ _ _ _ o p=>
  (qvY (rec (.e_109 p (IntKind.i64.wrap (l+1)) m))).bind fun q=>
  altC q (fun t=>
    tup5 t fun u v w x y=>
    some (.inr (.inr (.inr (.inr (.inr (.inr (.inr (.inr (.inr (.inl (.inl (u,v,w,x,y))))))))))))) (fun z=>altC z (fun t=>
    ql t fun a1 b1 c1 d1 e1 f1 g1 w x y=>
    some (.inr (.inr (.inr (.inr (.inr (.inr (.inr (.inr (.inr (.inl (.inr (a,[[ic b,.imm c,ic d,ic e,sc f,sc g,ic i],[ic a1,.own 7 b1,ic c1,ic d1,sc e1,sc f1,ic g1]],0,0,strB [],strB [],o,w,x,y))))))))))))) (fun t=>
    ql t fun a1 b1 c1 d1 e1 f1 g1 w x y=>
    some (.inr (.inr (.inr (.inr (.inr (.inr (.inr (.inr (.inr (.inl (.inr (a,[[ic b,.imm c,ic d,ic e,sc f,sc g,ic i],[ic a1,.imm b1,ic c1,ic d1,sc e1,sc f1,ic g1]],0,0,strB [],strB [],o,w,x,y))))))))))))))
 |.e_78b a b c d e f g i j l m=>
  (g88 k j l m).bind fun n=>
  tup6 n fun _ _ _ _ o p=>
  (qwj (rec (.e_107 p (IntKind.i64.wrap (l+1)) m))).bind fun q=>
  altC q (fun t=>
    tup5 t fun u v w x y=>
    some (.inr (.inr (.inr (.inr (.inr (.inr (.inr (.inr (.inr (.inr (.inl (.inl (u,v,w,x,y)))))))))))))) (fun t=>
    ql t fun z a1 b1 c1 d1 e1 f1 w x y=>
    some (.inr (.inr (.inr (.inr (.inr (.inr (.inr (.inr (.inr (.inr (.inl (.inr (a,[[ic b,.imm c,ic d,ic e,sc f,sc g,ic i],[ic z,.imm a1,ic b1,ic c1,sc d1,sc e1,ic f1]],0,0,strB [],strB [],o,w,x,y))))))))))))))
 |.e_78c a b c d e f g i j l m=>
  (g88 k j l m).bind fun n=>
  tup6 n fun _ _ _ _ o p=>
  (qoT (rec (.e_104 p (IntKind.i64.wrap (l+1)) m))).bind fun q=>
  altC q (fun t=>
    tup5 t fun u v w x y=>
    some (.inr (.inr (.inr (.inr (.inr (.inr (.inr (.inr (.inr (.inr (.inr (.inl (.inl (u,v,w,x,y))))))))))))))) (fun t=>
    ql t fun z a1 b1 c1 d1 e1 f1 w x y=>
    some (.inr (.inr (.inr (.inr (.inr (.inr (.inr (.inr (.inr (.inr (.inr (.inl (.inr (a,[[ic b,.imm c,ic d,ic e,sc f,sc g,ic i],[ic z,.imm a1,ic b1,ic c1,sc d1,sc e1,ic f1]],0,0,strB [],strB [],o,w,x,y)))))))))))))))
 |.e_78d a b c d e f g i j l m=>
  (g88 k j l m).bind fun n=>
  tup6 n fun _ _ _ _ o p=>
  (qhQ (rec (.e_87 p (IntKind.i64.wrap (l+1)) m))).bind fun q=>
  altC q (fun t=>
    tup5 t fun u v w x y=>
    some (.inr (.inr (.inr (.inr (.inr (.inr (.inr (.inr (.inr (.inr (.inr (.inr (.inl (.inl (u,v,w,x,y)))))))))))))))) (fun z=>altC z (fun t=>
    ql t fun a1 b1 c1 d1 e1 f1 g1 w x y=>
    some (.inr (.inr (.inr (.inr (.inr (.inr (.inr (.inr (.inr (.inr (.inr (.inr (.inl (.inr (a,[[ic b,.imm c,ic d,ic e,sc f,sc g,ic i],[ic a1,.imm b1,ic c1,ic d1,sc e1,sc f1,ic g1]],0,0,strB [],strB [],o,w,x,y)))))))))))))))) (fun t=>
    ql t fun a1 b1 c1 d1 e1 f1 g1 w x y=>
    some (.inr (.inr (.inr (.inr (.inr (.inr (.inr (.inr (.inr (.inr (.inr (.inr (.inl (.inr (a,[[ic b,.imm c,ic d,ic e,sc f,sc g,ic i],[ic a1,.own 7 b1,ic c1,ic d1,sc e1,sc f1,ic g1]],0,0,strB [],strB [],o,w,x,y)))))))))))))))))
 |.e_78e a b c d e f g i j l m=>
  (g88 k j l m).bind fun n=>
  tup6 n fun _ _ _ _ o p=>
  (qxf (rec (.e_76 p (IntKind.i64.wrap (l+1)) m))).bind fun q=>
  altC q (fun t=>
    tup5 t fun u v w x y=>
    some (.inr (.inr (.inr (.inr (.inr (.inr (.inr (.inr (.inr (.inr (.inr (.inr (.inr (.inl (u,v,w,x,y)))))))))))))))) (fun t=>
    ql t fun z a1 b1 c1 d1 e1 f1 w x y=>
    some (.inr (.inr (.inr (.inr (.inr (.inr (.inr (.inr (.inr (.inr (.inr (.inr (.inr (.inr (a,[[ic b,.imm c,ic d,ic e,sc f,sc g,ic i],[ic z,.imm a1,ic b1,ic c1,sc d1,sc e1,ic f1]],0,0,strB [],strB [],o,w,x,y))))))))))))))))
noncomputable def g63 (k:Nat)(a:Rs)(b c:Int):Option xk:=qwI (itS qpc k (.e_63 a b c))
noncomputable def P63:S63→R63→Prop
 |.e_63 a b c,r=>Fin cx63 Tryz.f63 [.code qre] (fr0 Tryz.f63 [pP 0] [[.imm a,ic b,ic c]]) (rs63 r) (bs63 r)
 |.h0_63 a b c d e f g i j l m n o p q t,r=>Fin cx63 Tryz.f63 (kAt qre [1,1,0,0,4] []) ⟨[pP 0,.deadv,pL 2,pL 3]++rep 10 .deadv,[(.loc 3,[ic a,.imm b,ic c,ic d,sc e,sc f,ic g]),(.loc 2,[ic i,.nil,ic j,ic l,sc m,sc n,ic o]),(.par 0,[.imm p,ic q,ic t])]⟩ (rs63 r) (bs63 r)
 |.h1_63 a b c d e f g i j l m n o p q t,r=>Fin cx63 Tryz.f63 (kAt qre [1,1,0,0,4] []) ⟨[pP 0,.deadv,pL 2,pL 3]++rep 10 .deadv,[(.loc 3,[ic a,.own 7 b,ic c,ic d,sc e,sc f,ic g]),(.loc 2,[ic i,.nil,ic j,ic l,sc m,sc n,ic o]),(.par 0,[.imm p,ic q,ic t])]⟩ (rs63 r) (bs63 r)
 |.e_76 a b c,r=>Fin cx76 Tryz.f76 [.code qwB] (fr0 Tryz.f76 [pP 0] [[.imm a,ic b,ic c]]) (rs76 r) (bs76 r)
 |.h0_76 a b c d e f g i j l m n o p q t,r=>Fin cx76 Tryz.f76 (kAt qwB [1,1,0,0,4] []) ⟨[pP 0,.deadv,pL 2,pL 3]++rep 10 .deadv,[(.loc 3,[ic a,.imm b,ic c,ic d,sc e,sc f,ic g]),(.loc 2,[ic i,.nil,ic j,ic l,sc m,sc n,ic o]),(.par 0,[.imm p,ic q,ic t])]⟩ (rs76 r) (bs76 r)
 |.h1_76 a b c d e f g i j l m n o p q t,r=>Fin cx76 Tryz.f76 (kAt qwB [1,1,0,0,4] []) ⟨[pP 0,.deadv,pL 2,pL 3]++rep 10 .deadv,[(.loc 3,[ic a,.own 7 b,ic c,ic d,sc e,sc f,ic g]),(.loc 2,[ic i,.nil,ic j,ic l,sc m,sc n,ic o]),(.par 0,[.imm p,ic q,ic t])]⟩ (rs76 r) (bs76 r)
 |.e_87 a b c,r=>Fin cx87 Tryz.f87 [.code qa5] (fr0 Tryz.f87 [pP 0] [[.imm a,ic b,ic c]]) (rs87 r) (bs87 r)
 |.e_97 a b c,r=>Fin cx97 Tryz.f97 [.code qri] (fr0 Tryz.f97 [pP 0] [[.imm a,ic b,ic c]]) (rs97 r) (bs97 r)
 |.e_104 a b c,r=>Fin qrI Tryz.f104 [.code qp4] (fr0 Tryz.f104 [pP 0] [[.imm a,ic b,ic c]]) (qrX r) (qrG r)
 |.h0_104 a b c d e f g i j l m n o p q t,r=>Fin qrI Tryz.f104 (kAt qp4 [1,1,0,4] []) ⟨[pP 0,.deadv,pL 2,pL 3]++rep 14 .deadv,[(.loc 3,[ic a,.imm b,ic c,ic d,sc e,sc f,ic g]),(.loc 2,[ic i,.nil,ic j,ic l,sc m,sc n,ic o]),(.par 0,[.imm p,ic q,ic t])]⟩ (qrX r) (qrG r)
 |.h1_104 a b c d e f g i j l m n o p q t,r=>Fin qrI Tryz.f104 (kAt qp4 [1,1,0,4] []) ⟨[pP 0,.deadv,pL 2,pL 3]++rep 14 .deadv,[(.loc 3,[ic a,.own 7 b,ic c,ic d,sc e,sc f,ic g]),(.loc 2,[ic i,.nil,ic j,ic l,sc m,sc n,ic o]),(.par 0,[.imm p,ic q,ic t])]⟩ (qrX r) (qrG r)
 |.e_107 a b c,r=>Fin qxY Tryz.f107 [.code qv3] (fr0 Tryz.f107 [pP 0] [[.imm a,ic b,ic c]]) (qx3 r) (qxW r)
 |.h0_107 a b c d e f g i j l m n o p q t,r=>Fin qxY Tryz.f107 (kAt qv3 [1,1,0,4] []) ⟨[pP 0,.deadv,pL 2,pL 3]++rep 14 .deadv,[(.loc 3,[ic a,.own 7 b,ic c,ic d,sc e,sc f,ic g]),(.loc 2,[ic i,.nil,ic j,ic l,sc m,sc n,ic o]),(.par 0,[.imm p,ic q,ic t])]⟩ (qx3 r) (qxW r)
 |.h1_107 a b c d e f g i j l m n o p q t,r=>Fin qxY Tryz.f107 (kAt qv3 [1,1,0,4] []) ⟨[pP 0,.deadv,pL 2,pL 3]++rep 14 .deadv,[(.loc 3,[ic a,.imm b,ic c,ic d,sc e,sc f,ic g]),(.loc 2,[ic i,.nil,ic j,ic l,sc m,sc n,ic o]),(.par 0,[.imm p,ic q,ic t])]⟩ (qx3 r) (qxW r)
 |.e_109 a b c,r=>Fin qw6 Tryz.f109 [.code qvP] (fr0 Tryz.f109 [pP 0] [[.imm a,ic b,ic c]]) (qxe r) (qw2 r)
 |.h0_109 a b c d e f g i j l,r=>Fin qw6 Tryz.f109 (kAt qvP [1,0,1,0,1,2] []) ⟨[.deadv,.deadv,pL 2]++rep 22 .deadv,[(.loc 2,[ic a,.imm b,ic c,ic d,sc e,sc f,ic g]),(.par 0,[.imm i,ic j,ic l])]⟩ (qxe r) (qw2 r)
 |.h1_109 a b c d e f g i j l,r=>Fin qw6 Tryz.f109 (kAt qvP [1,0,1,0,1,2] []) ⟨[.deadv,.deadv,pL 2]++rep 22 .deadv,[(.loc 2,[ic a,.own 7 b,ic c,ic d,sc e,sc f,ic g]),(.par 0,[.imm i,ic j,ic l])]⟩ (qxe r) (qw2 r)
 |.h2_109 a b c d e f g i j l,r=>Fin qw6 Tryz.f109 (kAt qvP [1,1,1,1,1,1,2] []) ⟨[.deadv,.deadv,pL 2]++rep 22 .deadv,[(.loc 2,[ic a,.own 7 b,ic c,ic d,sc e,sc f,ic g]),(.par 0,[.imm i,ic j,ic l])]⟩ (qxe r) (qw2 r)
 |.e_112 a b c,r=>Fin qqg Tryz.f112 [.code qpm] (fr0 Tryz.f112 [pP 0] [[.imm a,ic b,ic c]]) (qqm r) (qqe r)
 |.h0_112 a b c d e f g i j l,r=>Fin qqg Tryz.f112 (kAt qpm [1,1,0,1,0,1,0,1,1,2] []) ⟨[.deadv,.deadv,pL 2]++rep 92 .deadv,[(.loc 2,[ic a,.imm b,ic c,ic d,sc e,sc f,ic g]),(.par 0,[.imm i,ic j,ic l])]⟩ (qqm r) (qqe r)
 |.h1_112 a b c d e f g i j l,r=>Fin qqg Tryz.f112 (kAt qpm [1,1,0,1,0,1,1,1,0,1,1,2] []) ⟨[.deadv,.deadv,pL 2]++rep 92 .deadv,[(.loc 2,[ic a,.imm b,ic c,ic d,sc e,sc f,ic g]),(.par 0,[.imm i,ic j,ic l])]⟩ (qqm r) (qqe r)
 |.h2_112 a b c d e f g i j l,r=>Fin qqg Tryz.f112 (kAt qpm [1,1,0,1,0,1,1,1,1,1,0,1,1,2] []) ⟨[.deadv,.deadv,pL 2]++rep 92 .deadv,[(.loc 2,[ic a,.imm b,ic c,ic d,sc e,sc f,ic g]),(.par 0,[.imm i,ic j,ic l])]⟩ (qqm r) (qqe r)
 |.h3_112 a b c d e f g i j l,r=>Fin qqg Tryz.f112 (kAt qpm [1,1,0,1,0,1,1,1,1,1,1,1,0,1,1,2] []) ⟨[.deadv,.deadv,pL 2]++rep 92 .deadv,[(.loc 2,[ic a,.imm b,ic c,ic d,sc e,sc f,ic g]),(.par 0,[.imm i,ic j,ic l])]⟩ (qqm r) (qqe r)
 |.h4_112 a b c d e f g i j l,r=>Fin qqg Tryz.f112 (kAt qpm [1,1,0,1,0,1,1,1,1,1,1,1,1,1,0,1,0,1,1,1,1,1,2] []) ⟨[.deadv,.deadv,pL 2]++rep 92 .deadv,[(.loc 2,[ic a,.imm b,ic c,ic d,sc e,sc f,ic g]),(.par 0,[.imm i,ic j,ic l])]⟩ (qqm r) (qqe r)
 |.h5_112 a b c d e f g i j l m n o p,r=>Fin qqg Tryz.f112 (kAt qpm [1,1,1,2] []) ⟨[.deadv,.deadv,pL 2,pL 3]++rep 91 .deadv,[(.loc 3,[ic a,sc b,ic c,ic d,ic e]),(.loc 2,[ic f,.nil,ic g,ic i,sc j,sc l,ic m]),(.par 0,[.imm n,ic o,ic p])]⟩ (qqm r) (qqe r)
 |.h6_112 a b c d e f g i j l,r=>Fin qqg Tryz.f112 (kAt qpm [1,1,0,1,0,1,1,1,1,1,1,1,1,1,1,1,0,1,2] []) ⟨[.deadv,.deadv,pL 2]++rep 92 .deadv,[(.loc 2,[ic a,.own 7 b,ic c,ic d,sc e,sc f,ic g]),(.par 0,[.imm i,ic j,ic l])]⟩ (qqm r) (qqe r)
 |.e_116 a b c d e f g i,r=>Fin qt9 Tryz.f116 [.code qsy] (fr0 Tryz.f116 [pP 0,.ag [ic a,sc b,ic c,ic d,ic e]] [[.imm f,ic g,ic i]]) (qwa r) (qv5 r)
 |.h0_116 a b c d e f g i j l m n o p q t,r=>Fin qt9 Tryz.f116 (kAt qsy [1,0,1,0,1,2] []) ⟨[pP 0,.deadv,.deadv,pL 3,pL 4]++rep 4 .deadv++[.c (sc a),.c (bc b)]++rep 46 .deadv,[(.loc 4,[ic c,.nil,ic d,ic e,sc f,sc g,ic i]),(.loc 3,[ic j,sc l,ic m,ic n,ic o]),(.par 0,[.imm p,ic q,ic t])]⟩ (qwa r) (qv5 r)
 |.h1_116 a b c d e f g i j l m n o p q,r=>Fin qt9 Tryz.f116 (kAt qsy [1,0,1,0,1,0,1,1,1,2] []) ⟨rep 3 .deadv++[pL 3,pL 4,.c (ic a)]++rep 51 .deadv,[(.loc 4,[ic b,.nil,ic c,ic d,sc e,sc f,ic g]),(.loc 3,[ic i,sc j,ic l,ic m,ic n]),(.par 0,[.imm o,ic p,ic q])]⟩ (qwa r) (qv5 r)
 |.h2_116 a b c d e f g i j l m n o p q,r=>Fin qt9 Tryz.f116 (kAt qsy [1,0,1,0,1,1,1,2] []) ⟨[pP 0,.deadv,.deadv,pL 3,pL 4]++rep 22 .deadv++[.c (bc a)]++rep 29 .deadv,[(.loc 4,[ic b,.nil,ic c,ic d,sc e,sc f,ic g]),(.loc 3,[ic i,sc j,ic l,ic m,ic n]),(.par 0,[.imm o,ic p,ic q])]⟩ (qwa r) (qv5 r)
 |.h3_116 a b c d e f g i j l,r=>Fin qt9 Tryz.f116 (kAt qsy [1,0,1,0,1,0,1,1,1,1,2] []) ⟨rep 4 .deadv++[pL 4]++rep 52 .deadv,[(.loc 4,[ic a,.own 7 b,ic c,ic d,sc e,sc f,ic g]),(.par 0,[.imm i,ic j,ic l])]⟩ (qwa r) (qv5 r)
 |.h4_116 a b c d e f g i j l,r=>Fin qt9 Tryz.f116 (kAt qsy [1,0,1,0,1,1,1,0,1,1,1,1,1,1,1,1,2] []) ⟨rep 4 .deadv++[pL 4]++rep 52 .deadv,[(.loc 4,[ic a,.own 7 b,ic c,ic d,sc e,sc f,ic g]),(.par 0,[.imm i,ic j,ic l])]⟩ (qwa r) (qv5 r)
 |.h5_116 a b c d e f g i j l,r=>Fin qt9 Tryz.f116 (kAt qsy [1,1,1,2] []) ⟨rep 4 .deadv++[pL 4]++rep 52 .deadv,[(.loc 4,[ic a,.own 7 b,ic c,ic d,sc e,sc f,ic g]),(.par 0,[.imm i,ic j,ic l])]⟩ (qwa r) (qv5 r)
 |.e_78 a b c d e f g i j l m,r=>Fin cx78 Tryz.f78 [.code qfT] (fr0 Tryz.f78 [pP 0,.c (ic a),.ag [ic b,.imm c,ic d,ic e,sc f,sc g,ic i],.c (.clo 109 [.ptr ⟨⟨.par 0,[]⟩,0,0⟩] [])] [[.imm j,ic l,ic m]]) (rs78 r) (bs78 r)
 |.e_78b a b c d e f g i j l m,r=>Fin cx78 Tryz.f78 [.code qfT] (fr0 Tryz.f78 [pP 0,.c (ic a),.ag [ic b,.imm c,ic d,ic e,sc f,sc g,ic i],.c (.clo 107 [.ptr ⟨⟨.par 0,[]⟩,0,0⟩] [])] [[.imm j,ic l,ic m]]) (qzF r) (qy7 r)
 |.e_78c a b c d e f g i j l m,r=>Fin cx78 Tryz.f78 [.code qfT] (fr0 Tryz.f78 [pP 0,.c (ic a),.ag [ic b,.imm c,ic d,ic e,sc f,sc g,ic i],.c (.clo 104 [.ptr ⟨⟨.par 0,[]⟩,0,0⟩] [])] [[.imm j,ic l,ic m]]) (qzG r) (qy8 r)
 |.e_78d a b c d e f g i j l m,r=>Fin cx78 Tryz.f78 [.code qfT] (fr0 Tryz.f78 [pP 0,.c (ic a),.ag [ic b,.imm c,ic d,ic e,sc f,sc g,ic i],.c (.clo 87 [.ptr ⟨⟨.par 0,[]⟩,0,0⟩] [])] [[.imm j,ic l,ic m]]) (qzH r) (qy9 r)
 |.e_78e a b c d e f g i j l m,r=>Fin cx78 Tryz.f78 [.code qfT] (fr0 Tryz.f78 [pP 0,.c (ic a),.ag [ic b,.imm c,ic d,ic e,sc f,sc g,ic i],.c (.clo 76 [.ptr ⟨⟨.par 0,[]⟩,0,0⟩] [])] [[.imm j,ic l,ic m]]) (qzI r) (qza r)
abbrev E63 (a:Rs)(b c:Int)(r:xk):Prop:=Ev Tryz.prog noHand 63 [pP 0] [[.imm a,ic b,ic c]] (qrU r) (bx63 r)
theorem qur {a:Rs}{b c:Int}{r:xk}(h:P63 (.e_63 a b c) (.inl r)):E63 a b c r:=evF h
abbrev E76 (a:Rs)(b c:Int)(r:qvB):Prop:=Ev Tryz.prog noHand 76 [pP 0] [[.imm a,ic b,ic c]] (qy0 r) (bx76 r)
theorem qxa {a:Rs}{b c:Int}{r:qvB}(h:P63 (.e_76 a b c) (.inr (.inl r))):E76 a b c r:=evF h
abbrev E87 (a:Rs)(b c:Int)(r:qvm):Prop:=Ev Tryz.prog noHand 87 [pP 0] [[.imm a,ic b,ic c]] (qlA r) (bx87 r)
theorem qlN {a:Rs}{b c:Int}{r:qvm}(h:P63 (.e_87 a b c) (.inr (.inr (.inl r)))):E87 a b c r:=evF h
abbrev E97 (a:Rs)(b c:Int)(r:qvD):Prop:=Ev Tryz.prog noHand 97 [pP 0] [[.imm a,ic b,ic c]] (qtV r) (bx97 r)
theorem qrL {a:Rs}{b c:Int}{r:qvD}(h:P63 (.e_97 a b c) (.inr (.inr (.inr (.inl r))))):E97 a b c r:=evF h
abbrev E104 (a:Rs)(b c:Int)(r:qvc):Prop:=Ev Tryz.prog noHand 104 [pP 0] [[.imm a,ic b,ic c]] (qsg r) (qs4 r)
theorem qpx {a:Rs}{b c:Int}{r:qvc}(h:P63 (.e_104 a b c) (.inr (.inr (.inr (.inr (.inl r)))))):E104 a b c r:=evF h
abbrev E107 (a:Rs)(b c:Int)(r:qvd):Prop:=Ev Tryz.prog noHand 107 [pP 0] [[.imm a,ic b,ic c]] (qxu r) (qyf r)
theorem qwc {a:Rs}{b c:Int}{r:qvd}(h:P63 (.e_107 a b c) (.inr (.inr (.inr (.inr (.inr (.inl r))))))):E107 a b c r:=evF h
abbrev E109 (a:Rs)(b c:Int)(r:qve):Prop:=Ev Tryz.prog noHand 109 [pP 0] [[.imm a,ic b,ic c]] (qxv r) (qyg r)
theorem qvo {a:Rs}{b c:Int}{r:qve}(h:P63 (.e_109 a b c) (.inr (.inr (.inr (.inr (.inr (.inr (.inl r)))))))):E109 a b c r:=evF h
abbrev E112 (a:Rs)(b c:Int)(r:qvf):Prop:=Ev Tryz.prog noHand 112 [pP 0] [[.imm a,ic b,ic c]] (qsh r) (qs5 r)
theorem qrm {a:Rs}{b c:Int}{r:qvf}(h:P63 (.e_112 a b c) (.inr (.inr (.inr (.inr (.inr (.inr (.inr (.inl r))))))))):E112 a b c r:=evF h
abbrev E116 (a:Int)(b:By)(c d e:Int)(f:Rs)(g i:Int)(r:qvg):Prop:=Ev Tryz.prog noHand 116 [pP 0,.ag [ic a,sc b,ic c,ic d,ic e]] [[.imm f,ic g,ic i]] (qsi r) (qs6 r)
theorem qtl {a:Int}{b:By}{c d e:Int}{f:Rs}{g i:Int}{r:qvg}(h:P63 (.e_116 a b c d e f g i) (.inr (.inr (.inr (.inr (.inr (.inr (.inr (.inr (.inl r)))))))))):E116 a b c d e f g i r:=evF h
abbrev E78 (a b:Int)(c:Rs)(d e:Int)(f g:By)(i:Int)(j:Rs)(l m:Int)(r:qvC):Prop:=Ev Tryz.prog noHand 78 [pP 0,.c (ic a),.ag [ic b,.imm c,ic d,ic e,sc f,sc g,ic i],.c (.clo 109 [.ptr ⟨⟨.par 0,[]⟩,0,0⟩] [])] [[.imm j,ic l,ic m]] (qma r) (bx78 r)
theorem qc8 {a b:Int}{c:Rs}{d e:Int}{f g:By}{i:Int}{j:Rs}{l m:Int}{r:qvC}(h:P63 (.e_78 a b c d e f g i j l m) (.inr (.inr (.inr (.inr (.inr (.inr (.inr (.inr (.inr (.inl r))))))))))):E78 a b c d e f g i j l m r:=evF h
abbrev E78b (a b:Int)(c:Rs)(d e:Int)(f g:By)(i:Int)(j:Rs)(l m:Int)(r:qvh):Prop:=Ev Tryz.prog noHand 78 [pP 0,.c (ic a),.ag [ic b,.imm c,ic d,ic e,sc f,sc g,ic i],.c (.clo 107 [.ptr ⟨⟨.par 0,[]⟩,0,0⟩] [])] [[.imm j,ic l,ic m]] (qxE r) (qyp r)
theorem qwd {a b:Int}{c:Rs}{d e:Int}{f g:By}{i:Int}{j:Rs}{l m:Int}{r:qvh}(h:P63 (.e_78b a b c d e f g i j l m) (.inr (.inr (.inr (.inr (.inr (.inr (.inr (.inr (.inr (.inr (.inl r)))))))))))):E78b a b c d e f g i j l m r:=evF h
abbrev E78c (a b:Int)(c:Rs)(d e:Int)(f g:By)(i:Int)(j:Rs)(l m:Int)(r:qvi):Prop:=Ev Tryz.prog noHand 78 [pP 0,.c (ic a),.ag [ic b,.imm c,ic d,ic e,sc f,sc g,ic i],.c (.clo 104 [.ptr ⟨⟨.par 0,[]⟩,0,0⟩] [])] [[.imm j,ic l,ic m]] (qxF r) (qyq r)
theorem qxn {a b:Int}{c:Rs}{d e:Int}{f g:By}{i:Int}{j:Rs}{l m:Int}{r:qvi}(h:P63 (.e_78c a b c d e f g i j l m) (.inr (.inr (.inr (.inr (.inr (.inr (.inr (.inr (.inr (.inr (.inr (.inl r))))))))))))):E78c a b c d e f g i j l m r:=evF h
abbrev E78d (a b:Int)(c:Rs)(d e:Int)(f g:By)(i:Int)(j:Rs)(l m:Int)(r:qvj):Prop:=Ev Tryz.prog noHand 78 [pP 0,.c (ic a),.ag [ic b,.imm c,ic d,ic e,sc f,sc g,ic i],.c (.clo 87 [.ptr ⟨⟨.par 0,[]⟩,0,0⟩] [])] [[.imm j,ic l,ic m]] (qxG r) (qyr r)
theorem qwe {a b:Int}{c:Rs}{d e:Int}{f g:By}{i:Int}{j:Rs}{l m:Int}{r:qvj}(h:P63 (.e_78d a b c d e f g i j l m) (.inr (.inr (.inr (.inr (.inr (.inr (.inr (.inr (.inr (.inr (.inr (.inr (.inl r)))))))))))))):E78d a b c d e f g i j l m r:=evF h
abbrev E78e (a b:Int)(c:Rs)(d e:Int)(f g:By)(i:Int)(j:Rs)(l m:Int)(r:qvk):Prop:=Ev Tryz.prog noHand 78 [pP 0,.c (ic a),.ag [ic b,.imm c,ic d,ic e,sc f,sc g,ic i],.c (.clo 76 [.ptr ⟨⟨.par 0,[]⟩,0,0⟩] [])] [[.imm j,ic l,ic m]] (qxH r) (qys r)
theorem qwf {a b:Int}{c:Rs}{d e:Int}{f g:By}{i:Int}{j:Rs}{l m:Int}{r:qvk}(h:P63 (.e_78e a b c d e f g i j l m) (.inr (.inr (.inr (.inr (.inr (.inr (.inr (.inr (.inr (.inr (.inr (.inr (.inr r)))))))))))))):E78e a b c d e f g i j l m r:=evF h
theorem ok63:∀ k s r,itS qpc k s=some r→P63 s r:=qF fun k rec ih s r h=>match s,h with
 |.e_63 ..,h=>by
  obtain⟨_,a,h⟩:=qh h;replace h:=qf h;rcases h with⟨_,rfl,h⟩|⟨_,rfl,h⟩
  · replace h:=t5 h;cases h;exact mF 1 [cA 5 (qxa (ih _ _ (qvA a)))]
  · replace h:=t10 h;exact mA 1 (ih _ _ h) 7 [cA 5 (qxa (ih _ _ (qvA a)))] 14 16370
 |.h0_63 ..,h=>by
  obtain⟨_,a,h⟩:=qh h;replace h:=QD h;obtain⟨_,_,rfl,h⟩:=h;replace h:=qa h;rcases h with⟨rfl,h⟩|⟨rfl,h⟩
  · obtain⟨_,b,h⟩:=qh h;replace h:=qf h;rcases h with⟨_,rfl,h⟩|⟨_,rfl,h⟩
    · replace h:=t5 h;cases h;exact mF 1 [cA 7 (ev77 a),cA 12 (qwf (ih _ _ (qvt b)))]
    · replace h:=t10 h;exact mA 1 (ih _ _ h) 9 [cA 7 (ev77 a),cA 12 (qwf (ih _ _ (qvt b)))] 14 16370
  · cases h;exact mF 1 [cA 7 (ev77 a)]
 |.h1_63 ..,h=>by
  obtain⟨_,a,h⟩:=qh h;replace h:=QD h;obtain⟨_,_,rfl,h⟩:=h;replace h:=qa h;rcases h with⟨rfl,h⟩|⟨rfl,h⟩
  · obtain⟨_,b,h⟩:=qh h;replace h:=qf h;rcases h with⟨_,rfl,h⟩|⟨_,rfl,h⟩
    · replace h:=t5 h;cases h;exact mF 1 [cA 7 (ev77 a),cA 12 (qwf (ih _ _ (qvt b)))]
    · replace h:=t10 h;exact mA 1 (ih _ _ h) 9 [cA 7 (ev77 a),cF 12 (qwf (ih _ _ (qvt b)))] 14 16370
  · cases h;exact mF 1 [cA 7 (ev77 a)]
 |.e_76 ..,h=>by
  obtain⟨_,a,h⟩:=qh h;replace h:=qf h;rcases h with⟨_,rfl,h⟩|⟨_,rfl,h⟩
  · replace h:=t5 h;cases h;exact mF 1 [cA 5 (qlN (ih _ _ (qfN a)))]
  · replace h:=qf h;rcases h with⟨_,rfl,h⟩|⟨_,rfl,h⟩
    · replace h:=t10 h;exact mA 1 (ih _ _ h) 7 [cA 5 (qlN (ih _ _ (qfN a)))] 14 16370
    · replace h:=t10 h;exact mA 1 (ih _ _ h) 7 [cA 5 (qlN (ih _ _ (qfN a)))] 14 16370
 |.h0_76 ..,h=>by
  obtain⟨_,a,h⟩:=qh h;replace h:=QD h;obtain⟨_,_,rfl,h⟩:=h;replace h:=qa h;rcases h with⟨rfl,h⟩|⟨rfl,h⟩
  · obtain⟨_,b,h⟩:=qh h;replace h:=qf h;rcases h with⟨_,rfl,h⟩|⟨_,rfl,h⟩
    · replace h:=t5 h;cases h;exact mF 1 [cA 7 (ev77 a),cA 12 (qwe (ih _ _ (qvs b)))]
    · replace h:=t10 h;exact mA 1 (ih _ _ h) 9 [cA 7 (ev77 a),cA 12 (qwe (ih _ _ (qvs b)))] 14 16370
  · cases h;exact mF 1 [cA 7 (ev77 a)]
 |.h1_76 ..,h=>by
  obtain⟨_,a,h⟩:=qh h;replace h:=QD h;obtain⟨_,_,rfl,h⟩:=h;replace h:=qa h;rcases h with⟨rfl,h⟩|⟨rfl,h⟩
  · obtain⟨_,b,h⟩:=qh h;replace h:=qf h;rcases h with⟨_,rfl,h⟩|⟨_,rfl,h⟩
    · replace h:=t5 h;cases h;exact mF 1 [cA 7 (ev77 a),cA 12 (qwe (ih _ _ (qvs b)))]
    · replace h:=t10 h;exact mA 1 (ih _ _ h) 9 [cA 7 (ev77 a),cF 12 (qwe (ih _ _ (qvs b)))] 14 16370
  · cases h;exact mF 1 [cA 7 (ev77 a)]
 |.e_87 ..,h=>by
  obtain⟨_,a,h⟩:=b2 h;rcases qa h with⟨b,h⟩|⟨b,h⟩
  · obtain⟨_,c,h⟩:=qh h;replace h:=qf h;rcases h with⟨_,rfl,h⟩|⟨_,rfl,h⟩
    · replace h:=t5 h;cases h;exact mF 1 [cA 6 (ev77 a),tT 7 b,cA 9 (qrL (ih _ _ (qpR c)))]
    · replace h:=t10 h;cases h;exact mF 1 [cA 6 (ev77 a),tT 7 b,cA 9 (qrL (ih _ _ (qpR c)))]
  ·
   obtain⟨_,c,h⟩:=qh h;replace h:=qf h;rcases h with⟨_,rfl,h⟩|⟨_,rfl,h⟩
   · replace h:=t5 h;cases h;exact mF 1 [cA 6 (ev77 a),tF 7 b,cA 11 (ev98 c)]
   ·
    replace h:=t4 h;obtain⟨_,d,h⟩:=qh h;replace h:=qf h;rcases h with⟨_,rfl,h⟩|⟨_,rfl,h⟩
    · replace h:=t5 h;cases h;exact mF 1 [cA 6 (ev77 a),tF 7 b,cA 11 (ev98 c),cA 13 (qlN (ih _ _ (qfN d)))]
    · replace h:=qf h;rcases h with⟨_,rfl,h⟩|⟨_,rfl,h⟩
      · replace h:=t10 h;cases h;exact mF 1 [cA 6 (ev77 a),tF 7 b,cA 11 (ev98 c),cA 13 (qlN (ih _ _ (qfN d)))]
      · replace h:=t10 h;cases h;exact mF 1 [cA 6 (ev77 a),tF 7 b,cA 11 (ev98 c),cA 13 (qlN (ih _ _ (qfN d)))]
 |.e_97 ..,h=>by
  obtain⟨_,a,h⟩:=qh h;replace h:=qf h;rcases h with⟨_,rfl,h⟩|⟨_,rfl,h⟩
  · replace h:=t5 h;cases h;exact mF 1 [cA 6 (qpx (ih _ _ (qoS a)))]
  ·
   replace h:=t10 h;obtain⟨_,b,h⟩:=b2 h;rcases qa h with⟨c,h⟩|⟨c,h⟩
   · obtain⟨_,d,h⟩:=qh h;replace h:=qf h;rcases h with⟨_,rfl,h⟩|⟨_,rfl,h⟩
     · replace h:=t5 h;cases h;exact mF 1 [cA 6 (qpx (ih _ _ (qoS a))),cA 8 (qvl b),tT 10 c,cA 16 (qxn (ih _ _ (qv0 d)))]
     · replace h:=t10 h;cases h;exact mF 1 [cA 6 (qpx (ih _ _ (qoS a))),cA 8 (qvl b),tT 10 c,cA 16 (qxn (ih _ _ (qv0 d)))]
   · cases h;exact mF 1 [cA 6 (qpx (ih _ _ (qoS a))),cA 8 (qvl b),tF 10 c]
 |.e_104 ..,h=>by
  obtain⟨_,a,h⟩:=qh h;replace h:=qf h;rcases h with⟨_,rfl,h⟩|⟨_,rfl,h⟩
  · replace h:=t5 h;cases h;exact mF 1 [cA 6 (qwc (ih _ _ (qvq a)))]
  · replace h:=t10 h;exact mA 1 (ih _ _ h) 6 [cA 6 (qwc (ih _ _ (qvq a)))] 18 262130
 |.h0_104 ..,h=>by
  obtain⟨_,a,h⟩:=b2 h;rcases qa h with⟨b,h⟩|⟨b,h⟩
  · cases h;exact mF 1 [cA 8 (qvl a),tT 10 b]
  · obtain⟨_,c,h⟩:=qh h;replace h:=qf h;rcases h with⟨_,rfl,h⟩|⟨_,rfl,h⟩
    · replace h:=t5 h;cases h;exact mF 1 [cA 8 (qvl a),tF 10 b,cA 17 (qwd (ih _ _ (qvr c)))]
    · replace h:=t10 h;exact mA 1 (ih _ _ h) 11 [cA 8 (qvl a),tF 10 b,cA 17 (qwd (ih _ _ (qvr c)))] 18 262130
 |.h1_104 ..,h=>by
  obtain⟨_,a,h⟩:=b2 h;rcases qa h with⟨b,h⟩|⟨b,h⟩
  · cases h;exact mF 1 [cA 8 (qvl a),tT 10 b]
  · obtain⟨_,c,h⟩:=qh h;replace h:=qf h;rcases h with⟨_,rfl,h⟩|⟨_,rfl,h⟩
    · replace h:=t5 h;cases h;exact mF 1 [cA 8 (qvl a),tF 10 b,cA 17 (qwd (ih _ _ (qvr c)))]
    · replace h:=t10 h;exact mA 1 (ih _ _ h) 11 [cA 8 (qvl a),tF 10 b,cF 17 (qwd (ih _ _ (qvr c)))] 18 262130
 |.e_107 ..,h=>by
  obtain⟨_,a,h⟩:=qh h;replace h:=qf h;rcases h with⟨_,rfl,h⟩|⟨_,rfl,h⟩
  · replace h:=t5 h;cases h;exact mF 1 [cA 6 (qvo (ih _ _ (ve a)))]
  · replace h:=qf h;rcases h with⟨_,rfl,h⟩|⟨_,rfl,h⟩
    · replace h:=t10 h;exact mA 1 (ih _ _ h) 6 [cA 6 (qvo (ih _ _ (ve a)))] 18 262130
    · replace h:=t10 h;exact mA 1 (ih _ _ h) 6 [cA 6 (qvo (ih _ _ (ve a)))] 18 262130
 |.h0_107 ..,h=>by
  obtain⟨_,a,h⟩:=b2 h;rcases qa h with⟨b,h⟩|⟨b,h⟩
  · cases h;exact mF 1 [cA 8 (qvl a),tT 10 b]
  · obtain⟨_,c,h⟩:=qh h;replace h:=qf h;rcases h with⟨_,rfl,h⟩|⟨_,rfl,h⟩
    · replace h:=t5 h;cases h;exact mF 1 [cA 8 (qvl a),tF 10 b,cA 17 (qc8 (ih _ _ (xq c)))]
    · replace h:=t10 h;exact mA 1 (ih _ _ h) 11 [cA 8 (qvl a),tF 10 b,cF 17 (qc8 (ih _ _ (xq c)))] 18 262130
 |.h1_107 ..,h=>by
  obtain⟨_,a,h⟩:=b2 h;rcases qa h with⟨b,h⟩|⟨b,h⟩
  · cases h;exact mF 1 [cA 8 (qvl a),tT 10 b]
  · obtain⟨_,c,h⟩:=qh h;replace h:=qf h;rcases h with⟨_,rfl,h⟩|⟨_,rfl,h⟩
    · replace h:=t5 h;cases h;exact mF 1 [cA 8 (qvl a),tF 10 b,cA 17 (qc8 (ih _ _ (xq c)))]
    · replace h:=t10 h;exact mA 1 (ih _ _ h) 11 [cA 8 (qvl a),tF 10 b,cA 17 (qc8 (ih _ _ (xq c)))] 18 262130
 |.e_109 ..,h=>by
  obtain⟨_,a,h⟩:=b2 h;rcases qa h with⟨b,h⟩|⟨b,h⟩
  ·
   obtain⟨_,c,h⟩:=qh h;replace h:=qf h;rcases h with⟨_,rfl,h⟩|⟨_,rfl,h⟩
   · replace h:=t5 h;cases h;exact mF 1 [cA 6 (ev77 a),tT 7 b,cA 9 (qrm (ih _ _ (qpW c)))]
   · replace h:=qf h;rcases h with⟨_,rfl,h⟩|⟨_,rfl,h⟩
     · replace h:=t10 h;exact mA 1 (ih _ _ h) 8 [cA 6 (ev77 a),tT 7 b,cA 9 (qrm (ih _ _ (qpW c)))] 25 33554427
     · replace h:=t10 h;exact mA 1 (ih _ _ h) 8 [cA 6 (ev77 a),tT 7 b,cA 9 (qrm (ih _ _ (qpW c)))] 25 33554427
  ·
   obtain⟨_,c,h⟩:=qh h;replace h:=qf h;rcases h with⟨_,rfl,h⟩|⟨_,rfl,h⟩
   · replace h:=t5 h;cases h;exact mF 1 [cA 6 (ev77 a),tF 7 b,cA 11 (ev98 c)]
   ·
    replace h:=t4 h;obtain⟨_,d,h⟩:=qh h;replace h:=qf h;rcases h with⟨_,rfl,h⟩|⟨_,rfl,h⟩
    · replace h:=t5 h;cases h;exact mF 1 [cA 6 (ev77 a),tF 7 b,cA 11 (ev98 c),cA 13 (qvo (ih _ _ (ve d)))]
    · replace h:=qf h;rcases h with⟨_,rfl,h⟩|⟨_,rfl,h⟩
      · replace h:=t10 h;exact mG 1 (ih _ _ h) 15 [cA 6 (ev77 a),tF 7 b,cA 11 (ev98 c),cA 13 (qvo (ih _ _ (ve d)))] 25 33554427 [4] []
      · replace h:=t10 h;exact mG 1 (ih _ _ h) 15 [cA 6 (ev77 a),tF 7 b,cA 11 (ev98 c),cA 13 (qvo (ih _ _ (ve d)))] 25 33554427 [4] []
 |.h0_109 ..,h=>by cases h;exact mF 1 []
 |.h1_109 ..,h=>by cases h;exact mF 1 []
 |.h2_109 ..,h=>by cases h;exact mF 1 []
 |.e_112 ..,h=>by
  obtain⟨_,a,h⟩:=b6 h;rcases qa h with⟨b,h⟩|⟨b,h⟩
  · exact mG 1 (ih _ _ h) 15 [cA 8 (ev88 a),tT 12 b] 95 39614081257132168796771975163 [3] [(⟨⟨.loc 2,[]⟩,0,1⟩,none)]
  ·
   rcases qa h with⟨c,h⟩|⟨c,h⟩
   · exact mG 1 (ih _ _ h) 18 [cA 8 (ev88 a),tF 12 b,tT 26 c] 95 39614081257132168796771975163 [3] [(⟨⟨.loc 2,[]⟩,0,1⟩,none)]
   ·
    rcases qa h with⟨d,h⟩|⟨d,h⟩
    · exact mG 1 (ih _ _ h) 21 [cA 8 (ev88 a),tF 12 b,tF 26 c,tT 42 d] 95 39614081257132168796771975163 [3] [(⟨⟨.loc 2,[]⟩,0,1⟩,none)]
    ·
     rcases qa h with⟨e,h⟩|⟨e,h⟩
     · obtain⟨_,f,h⟩:=qh h;replace h:=qf h;rcases h with⟨_,rfl,h⟩|⟨_,rfl,h⟩
       · replace h:=t4 h;cases h;exact mF 1 [cA 8 (ev88 a),tF 12 b,tF 26 c,tF 42 d,tT 56 e,cA 59 (qw7 f)]
       · replace h:=t4 h;exact mG 1 (ih _ _ h) 24 [cA 8 (ev88 a),tF 12 b,tF 26 c,tF 42 d,tT 56 e,cA 59 (qw7 f)] 95 39614081257132168796771975163 [3] [(⟨⟨.loc 2,[]⟩,0,1⟩,none)]
     ·
      rcases qa h with⟨g,h⟩|⟨g,h⟩
      ·
       rcases qa h with⟨f,h⟩|⟨f,h⟩
       ·
        obtain⟨_,i,h⟩:=qh h;replace h:=qf h;rcases h with⟨_,rfl,h⟩|⟨_,rfl,h⟩
        · replace h:=t5 h;cases h;exact mF 1 [cA 8 (ev88 a),tF 12 b,tF 26 c,tF 42 d,tF 56 e,tT 68 g,tT 71 f,cA 73 (ev98 i)]
        · replace h:=t4 h;obtain⟨_,j,h⟩:=qh h;replace h:=qf h;rcases h with⟨_,rfl,h⟩|⟨_,rfl,h⟩
          · replace h:=t5 h;cases h;exact mF 1 [cA 8 (ev88 a),tF 12 b,tF 26 c,tF 42 d,tF 56 e,tT 68 g,tT 71 f,cA 73 (ev98 i),cA 75 (qur (ih _ _ (qu3 j)))]
          · replace h:=t10 h;obtain⟨_,l,h⟩:=qh h;replace h:=qf h;rcases h with⟨_,rfl,h⟩|⟨_,rfl,h⟩
            · replace h:=t4 h;cases h;exact mF 1 [cA 8 (ev88 a),tF 12 b,tF 26 c,tF 42 d,tF 56 e,tT 68 g,tT 71 f,cA 73 (ev98 i),cA 75 (qur (ih _ _ (qu3 j))),cA 77 (qu4 l)]
            · replace h:=t2 h;exact mG 1 (ih _ _ h) 36 [cA 8 (ev88 a),tF 12 b,tF 26 c,tF 42 d,tF 56 e,tT 68 g,tT 71 f,cA 73 (ev98 i),cA 75 (qur (ih _ _ (qu3 j))),cA 77 (qu4 l)] 95 39614081257132168796771975163 [6,3] []
       · exact mA 1 (ih _ _ h) 28 [cA 8 (ev88 a),tF 12 b,tF 26 c,tF 42 d,tF 56 e,tT 68 g,tF 71 f] 95 39614081257132168796771975155
      · rcases qa h with⟨f,h⟩|⟨f,h⟩
        · obtain⟨_,i,h⟩:=qh h;replace h:=qf h;rcases h with⟨_,rfl,h⟩|⟨_,rfl,h⟩
          · replace h:=t5 h;cases h;exact mF 1 [cA 8 (ev88 a),tF 12 b,tF 26 c,tF 42 d,tF 56 e,tF 68 g,tT 87 f,cA 90 (qtl (ih _ _ (qvZ i)))]
          · replace h:=t10 h;exact mG 1 (ih _ _ h) 28 [cA 8 (ev88 a),tF 12 b,tF 26 c,tF 42 d,tF 56 e,tF 68 g,tT 87 f,cA 90 (qtl (ih _ _ (qvZ i)))] 95 39614081257132168796771975163 [3] []
        · exact mA 1 (ih _ _ h) 28 [cA 8 (ev88 a),tF 12 b,tF 26 c,tF 42 d,tF 56 e,tF 68 g,tF 87 f] 95 39614081257132168796771975155
 |.h0_112 ..,h=>by cases h;exact mF 1 []
 |.h1_112 ..,h=>by cases h;exact mF 1 []
 |.h2_112 ..,h=>by cases h;exact mF 1 []
 |.h3_112 ..,h=>by cases h;exact mF 1 []
 |.h4_112 ..,h=>by cases h;exact mF 1 []
 |.h5_112 ..,h=>by cases h;exact mF 1 []
 |.h6_112 ..,h=>by cases h;exact mF 1 []
 |.e_116 ..,h=>by
  rcases qa h with⟨a,h⟩|⟨a,h⟩
  · exact mA 1 (ih _ _ h) 11 [tT 11 a] 57 144115188075854310
  · exact mA 1 (ih _ _ h) 11 [tF 11 a] 57 144115188075854310
 |.h0_116 ..,h=>by
  replace h:=qa h;rcases h with⟨rfl,h⟩|⟨rfl,h⟩
  · rcases qa h with⟨a,h⟩|⟨a,h⟩
    · exact mA 1 (ih _ _ h) 10 [tT 22 a] 57 144115188075855815
    · exact mA 1 (ih _ _ h) 10 [tF 22 a] 57 144115188075855815
  · rcases qa h with⟨a,h⟩|⟨a,h⟩
    · exact mA 1 (ih _ _ h) 6 [tT 28 a] 57 144115187941638118
    · exact mA 1 (ih _ _ h) 6 [tF 28 a] 57 144115187941638118
 |.h1_116 ..,h=>by exact mG 1 (ih _ _ h) 2 [] 57 144115188075855855 [3] [(⟨⟨.loc 4,[]⟩,0,1⟩,some 7)]
 |.h2_116 ..,h=>by
  replace h:=qa h;rcases h with⟨rfl,h⟩|⟨rfl,h⟩
  ·
   obtain⟨_,a,h⟩:=qh h;replace h:=qf h;rcases h with⟨_,rfl,h⟩|⟨_,rfl,h⟩
   · replace h:=t5 h;cases h;exact mF 1 [cA 31 (ev98 a)]
   ·
    replace h:=t4 h;obtain⟨_,b,h⟩:=qh h;replace h:=qf h;rcases h with⟨_,rfl,h⟩|⟨_,rfl,h⟩
    · replace h:=t4 h;cases h;exact mF 1 [cA 31 (ev98 a),cA 33 (qu4 b)]
    ·
     replace h:=t2 h;obtain⟨_,c,h⟩:=qh h;replace h:=qf h;rcases h with⟨_,rfl,h⟩|⟨_,rfl,h⟩
     · replace h:=t5 h;cases h;exact mF 1 [cA 31 (ev98 a),cA 33 (qu4 b),cA 35 (qur (ih _ _ (qu3 c)))]
     · replace h:=t10 h;obtain⟨_,d,h⟩:=qh h;replace h:=qf h;rcases h with⟨_,rfl,h⟩|⟨_,rfl,h⟩
       · replace h:=t4 h;cases h;exact mF 1 [cA 31 (ev98 a),cA 33 (qu4 b),cA 35 (qur (ih _ _ (qu3 c))),cA 37 (qu4 d)]
       · replace h:=t2 h;rcases qa h with⟨e,h⟩|⟨e,h⟩
         · exact mG 1 (ih _ _ h) 20 [cA 31 (ev98 a),cA 33 (qu4 b),cA 35 (qur (ih _ _ (qu3 c))),cA 37 (qu4 d),tT 47 e] 57 144115188075855855 [6,3] []
         · exact mG 1 (ih _ _ h) 20 [cA 31 (ev98 a),cA 33 (qu4 b),cA 35 (qur (ih _ _ (qu3 c))),cA 37 (qu4 d),tF 47 e] 57 144115188075855855 [6,3] []
  · obtain⟨_,a,h⟩:=qh h;replace h:=qf h;rcases h with⟨_,rfl,h⟩|⟨_,rfl,h⟩
    · replace h:=t4 h;cases h;exact mF 1 [cA 56 (qyt a)]
    · replace h:=t8 h;exact mG 1 (ih _ _ h) 5 [cA 56 (qyt a)] 57 144115188075855855 [3] [(⟨⟨.loc 4,[]⟩,0,1⟩,some 7)]
 |.h3_116 ..,h=>by cases h;exact mF 1 []
 |.h4_116 ..,h=>by cases h;exact mF 1 []
 |.h5_116 ..,h=>by cases h;exact mF 1 []
 |.e_78 ..,h=>by
  obtain⟨_,a,h⟩:=b6 h;obtain⟨_,b,h⟩:=qh h;replace h:=qf h;rcases h with⟨_,rfl,h⟩|⟨_,rfl,h⟩
  · replace h:=t5 h;cases h;exact mF 1 [cA 11 (ev88 a),aP 3,cA 23 (qvo (ih _ _ (ve b)))]
  · replace h:=qf h;rcases h with⟨_,rfl,h⟩|⟨_,rfl,h⟩
    · replace h:=t10 h;cases h;exact mF 1 [cA 11 (ev88 a),cA 23 (qvo (ih _ _ (ve b)))]
    · replace h:=t10 h;cases h;exact mF 1 [cA 11 (ev88 a),cA 23 (qvo (ih _ _ (ve b)))]
 |.e_78b ..,h=>by
  obtain⟨_,a,h⟩:=b6 h;obtain⟨_,b,h⟩:=qh h;replace h:=qf h;rcases h with⟨_,rfl,h⟩|⟨_,rfl,h⟩
  · replace h:=t5 h;cases h;exact mF 1 [cA 11 (ev88 a),aP 3,cA 23 (qwc (ih _ _ (qvq b)))]
  · replace h:=t10 h;cases h;exact mF 1 [cA 11 (ev88 a),cA 23 (qwc (ih _ _ (qvq b)))]
 |.e_78c ..,h=>by
  obtain⟨_,a,h⟩:=b6 h;obtain⟨_,b,h⟩:=qh h;replace h:=qf h;rcases h with⟨_,rfl,h⟩|⟨_,rfl,h⟩
  · replace h:=t5 h;cases h;exact mF 1 [cA 11 (ev88 a),aP 3,cA 23 (qpx (ih _ _ (qoS b)))]
  · replace h:=t10 h;cases h;exact mF 1 [cA 11 (ev88 a),cA 23 (qpx (ih _ _ (qoS b)))]
 |.e_78d ..,h=>by
  obtain⟨_,a,h⟩:=b6 h;obtain⟨_,b,h⟩:=qh h;replace h:=qf h;rcases h with⟨_,rfl,h⟩|⟨_,rfl,h⟩
  · replace h:=t5 h;cases h;exact mF 1 [cA 11 (ev88 a),aP 3,cA 23 (qlN (ih _ _ (qfN b)))]
  · replace h:=qf h;rcases h with⟨_,rfl,h⟩|⟨_,rfl,h⟩
    · replace h:=t10 h;cases h;exact mF 1 [cA 11 (ev88 a),cA 23 (qlN (ih _ _ (qfN b)))]
    · replace h:=t10 h;cases h;exact mF 1 [cA 11 (ev88 a),cA 23 (qlN (ih _ _ (qfN b)))]
 |.e_78e ..,h=>by
  obtain⟨_,a,h⟩:=b6 h;obtain⟨_,b,h⟩:=qh h;replace h:=qf h;rcases h with⟨_,rfl,h⟩|⟨_,rfl,h⟩
  · replace h:=t5 h;cases h;exact mF 1 [cA 11 (ev88 a),aP 3,cA 23 (qxa (ih _ _ (qvA b)))]
  · replace h:=t10 h;cases h;exact mF 1 [cA 11 (ev88 a),cA 23 (qxa (ih _ _ (qvA b)))]
theorem ev63 {k:Nat}{a:Rs}{b c:Int}{r:xk}(h:g63 k a b c=some r):E63 a b c r:=qur (ok63 _ _ _ (qu3 h))
end Ab
end Go.Proofs.YtpdhhkfllkgahaaGreatDoor
