/-
  Functions' ways, printed by a program: what each computes, and that this is what the interpreter computes.
-/
import Derived.Test.YtpdhhkfllkgahaaGreatDoorFQcq
import Derived.KernelRfl
set_option linter.all false
set_option maxRecDepth 10000
namespace Go.Proofs.YtpdhhkfllkgahaaGreatDoor
namespace Ab
variable [vo]
inductive S44 where
 |e (a:Rs)(b:Int)
 |h0 (a:Rs)(b:Int)(c:Bool)(d e f g i j:Int)(l m:By)(n:Int)
 |h1 (a b c d:Int)(e:Rs)(f g:Int)(i j:By)(l:Int)
 |h2 (a b c d:Int)(e:Rs)(f g:Int)(i j:By)(l:Int)
abbrev R44:=(Int×Int×Int×By×By×Int×Int×Int×Int)⊕(Int×Rs×Int×Int×By×By×Int×Int×Int×Int)
def qtE:R44→ARes
 |(.inl (a,b,c,d,e,f,g,i,j))=>.ret ⟨.tup [true,false,false,false],[[ic a,.nil,ic b,ic c,sc d,sc e,ic f],[ic g],[ic i],[ic j]]⟩
 |(.inr (a,b,c,d,e,f,g,i,j,l))=>.ret ⟨.tup [true,false,false,false],[[ic a,.imm b,ic c,ic d,sc e,sc f,ic g],[ic i],[ic j],[ic l]]⟩
def bx44:R44→List (List Cell)
 |(.inl (_,_,_,_,_,_,_,_,_))=>[]
 |(.inr (_,_,_,_,_,_,_,_,_,_))=>[]
noncomputable def qq1 (k:Nat)(rec:S44→Option R44):S44→Option R44
 |.e a b=>
  bif decide (b<0)then
   rec (.h0 a b true 0 0 0 0 0 0 (strB []) (strB []) 0)
  else
   rec (.h0 a b (decide (b≥(a.length:Int))) 0 0 0 0 0 0 (strB []) (strB []) 0)
 |.h0 a b c ..=>
  bif c then
   rec (.h1 1 0 0 0 [] 0 0 (strB []) (strB []) 0)
  else
   (g63 k a b 0).bind fun d=>
   altC d (fun e=>
     tup5 e fun f g _ i _=>
     some (.inl (0,0,0,strB [],strB [],0,0,f,g))) (fun e=>
     ql e fun j l m n o p q _ i _=>
     rec (.h2 0 0 i j l m n o p q))
 |.h1 a b c d e f g i j l=>some (.inr (d,e,f,g,i,j,l,c,b,a))
 |.h2 a b c d e f g i j l=>some (.inr (d,e,f,g,i,j,l,c,b,a))
noncomputable def g44 (k:Nat)(a:Rs)(b:Int):Option R44:=itS qq1 k (.e a b)
noncomputable def P44:S44→R44→Prop
 |.e a b,r=>FinD cx44 Tryz.f44 (DOf cx44.P none 0) [.code qsQ] (fr0 Tryz.f44 [.c (.imm a),.c (ic b)] []) (qtE r) (bx44 r)
 |.h0 a b c d e f g i j l m n,r=>FinD cx44 Tryz.f44 (DOf cx44.P none 0) (kAt qsQ [1,0,1,2] []) ⟨[.c (.imm a),.c (ic b),.deadv,.deadv,pL 4,pL 5,pL 6,pL 7]++rep 8 .deadv++[.c (bc c)]++rep 13 .deadv,[(.loc 7,[ic d]),(.loc 6,[ic e]),(.loc 5,[ic f]),(.loc 4,[ic g,.nil,ic i,ic j,sc l,sc m,ic n])]⟩ (qtE r) (bx44 r)
 |.h1 a b c d e f g i j l,r=>FinD cx44 Tryz.f44 (DOf cx44.P none 0) (kAt qsQ [1,0,1,0,1,2] []) ⟨rep 4 .deadv++[pL 4,pL 5,pL 6,pL 7]++rep 22 .deadv,[(.loc 7,[ic a]),(.loc 6,[ic b]),(.loc 5,[ic c]),(.loc 4,[ic d,.imm e,ic f,ic g,sc i,sc j,ic l])]⟩ (qtE r) (bx44 r)
 |.h2 a b c d e f g i j l,r=>FinD cx44 Tryz.f44 (DOf cx44.P (some 18) 62) (kAt qsQ [1,1,1,1,1,1,2] []) ⟨rep 4 .deadv++[pL 4,pL 5,pL 6,pL 7]++rep 10 .deadv++[.c (.clo 62 [] [.ptr ⟨⟨.loc 4,[]⟩,0,0⟩,.ptr ⟨⟨.loc 5,[]⟩,0,0⟩,.ptr ⟨⟨.loc 6,[]⟩,0,0⟩,.ptr ⟨⟨.loc 7,[]⟩,0,0⟩])]++rep 11 .deadv,[(.loc 7,[ic a]),(.loc 6,[ic b]),(.loc 5,[ic c]),(.loc 4,[ic d,.imm e,ic f,ic g,sc i,sc j,ic l])]⟩ (qtE r) (bx44 r)
abbrev E44 (a:Rs)(b:Int)(r:R44):Prop:=Ev Tryz.prog noHand 44 [.c (.imm a),.c (ic b)] [] (qtE r) (bx44 r)
theorem quh {a:Rs}{b:Int}{r:R44}(h:P44 (.e a b) r):E44 a b r:=evD h
theorem qyw {b0_0:Int}{b0_2:Int}{b0_3:Int}{b0_4:ByteArray}{b0_5:ByteArray}{b0_6:Int}{b1_0:Int}{b2_0:Int}{b3_0:Int}{pv_i00:Int}{pv_i01:Int}:EvD Tryz.prog (.panicking [{ v:=.iface 109 (.agg #[.int .i64 pv_i00,.int .i64 pv_i01]),recovered:=false }]) (.panicking [{ v:=.iface 109 (.agg #[.int .i64 pv_i00,.int .i64 pv_i01]),recovered:=true }]) 62 [pP 0,pP 1,pP 2,pP 3] [[ic b0_0,.nil,ic b0_2,ic b0_3,sc b0_4,sc b0_5,ic b0_6],[ic b1_0],[ic b2_0],[ic b3_0]] (.ret .undef) [[ic 0,.nil,ic 0,ic 0,sc (strB []),sc (strB []),ic 0],[ic 0],[ic pv_i00],[ic pv_i01]]:=qcj (fn:=Tryz.f62) (body:=qxm) (cx:=cx62) (nb:=4) (n:=2000) (val:=.iface 109 (.agg #[.int .i64 pv_i00,.int .i64 pv_i01])) (ad1:=[]) (ad2:=[]) (ps:=[]) (by kernel_rfl) (by kernel_rfl) rfl hmix rfl (.inl ⟨rfl,rfl⟩) (by kernel_rfl) trivial
theorem qyx {b0_0:Int}{b0_1:Rs}{b0_2:Int}{b0_3:Int}{b0_4:ByteArray}{b0_5:ByteArray}{b0_6:Int}{b1_0:Int}{b2_0:Int}{b3_0:Int}:EvD Tryz.prog .returning .returning 62 [pP 0,pP 1,pP 2,pP 3] [[ic b0_0,.imm b0_1,ic b0_2,ic b0_3,sc b0_4,sc b0_5,ic b0_6],[ic b1_0],[ic b2_0],[ic b3_0]] (.ret .undef) [[ic b0_0,.imm b0_1,ic b0_2,ic b0_3,sc b0_4,sc b0_5,ic b0_6],[ic b1_0],[ic b2_0],[ic b3_0]]:=qcj (fn:=Tryz.f62) (body:=qxm) (cx:=cx62) (nb:=4) (n:=2000) (val:=.nilIface) (ad1:=[]) (ad2:=[]) (ps:=[]) (by kernel_rfl) (by kernel_rfl) rfl hmix rfl (.inr ⟨rfl,rfl,rfl⟩) (by kernel_rfl) trivial
theorem ok44:∀ k s r,itS qq1 k s=some r→P44 s r:=qF fun k rec ih s r h=>match s,h with
 |.e ..,h=>by
  rcases qa h with⟨a,h⟩|⟨a,h⟩
  · exact Ya (t:=none) (f:=0) hmix (ih _ _ h) (n:=5) (ad:=[(some 10,.test true)]) (ps:=[_]) (m:=bm 30 1073676044) (ls:=[]) (cs:=[]) (by kernel_rfl) ⟨a,trivial⟩
  · exact Ya (t:=none) (f:=0) hmix (ih _ _ h) (n:=5) (ad:=[(some 10,.test false)]) (ps:=[_]) (m:=bm 30 1073676044) (ls:=[]) (cs:=[]) (by kernel_rfl) ⟨a,trivial⟩
 |.h0 a b _ c d e g i j l o p,h=>by
  replace h:=qa h;rcases h with⟨rfl,h⟩|⟨rfl,h⟩
  · exact Ya (t:=none) (f:=0) hmix (ih _ _ h) (n:=3) (ad:=[]) (ps:=[]) (m:=bm 30 1073741583) (ls:=[]) (cs:=[(⟨⟨.loc 4,[]⟩,0,1⟩,none)]) (by kernel_rfl) trivial
  · obtain⟨_,q,h⟩:=qh h;replace h:=qf h;rcases h with⟨_,rfl,h⟩|⟨_,rfl,h⟩
    · replace h:=qk6 h;obtain⟨u,v,w,x,y,rfl,h⟩:=h;rw[← aR h];exact Ya (t:=none) (f:=0) hmix (qg9 (Q:=fun G0 w0=>bodyPostD cx44.P Tryz.f44 (Went G0 w0 _ _)) (K0:=(kAt qsQ [1,1,0,2] [])) (F:=⟨[.c (.imm a),.c (ic b),.deadv,.deadv,pL 4,pL 5,pL 6,pL 7]++rep 8 .deadv++[.c (bc false)]++rep 13 .deadv,[(.loc 7,[ic c]),(.loc 6,[ic d]),(.loc 5,[ic e]),(.loc 4,[ic g,.nil,ic i,ic j,sc l,sc o,ic p])]⟩) (k:=18) (f:=62) (K1:=(kAt qsQ [1,1,0,3] [])) (F1:=⟨[.c (.imm a),.c (ic b),.deadv,.deadv,pL 4,pL 5,pL 6,pL 7]++rep 8 .deadv++[.c (bc false),.deadv,.c (.clo 62 [] [.ptr ⟨⟨.loc 4,[]⟩,0,0⟩,.ptr ⟨⟨.loc 5,[]⟩,0,0⟩,.ptr ⟨⟨.loc 6,[]⟩,0,0⟩,.ptr ⟨⟨.loc 7,[]⟩,0,0⟩])]++rep 11 .deadv,[(.loc 7,[ic c]),(.loc 6,[ic d]),(.loc 5,[ic e]),(.loc 4,[ic g,.nil,ic i,ic j,sc l,sc o,ic p])]⟩) (ad:=[]) (ps:=[]) ⟨Tryz.f62,by kernel_rfl,by kernel_rfl,by kernel_rfl⟩ (Yz (nb:=0) (t:=some 18) (f:=62) hmix (n:=2000) (ad:=[(some 24,.call (.panic (.iface 109 (.agg #[.int .i64 u,.int .i64 v]))) [[.imm w,ic x,ic y]] false)]) (ps:=[_,_]) (bx':=[[ic 0,.nil,ic 0,ic 0,sc (strB []),sc (strB []),ic 0],[ic 0],[ic u],[ic v]]) (by kernel_rfl) ⟨(ev63 q),(qyw (b0_0:=g) (b0_2:=i) (b0_3:=j) (b0_4:=l) (b0_5:=o) (b0_6:=p) (b1_0:=e) (b2_0:=d) (b3_0:=c) (pv_i00:=u) (pv_i01:=v)),trivial⟩) (by kernel_rfl) trivial) (n:=3) (ad:=[]) (ps:=[]) (m:=bm 30 0) (ls:=[]) (cs:=[]) (by kernel_rfl) trivial
    · replace h:=qjf h;obtain⟨z,a1,b1,c1,d1,e1,f1,w,x,y,rfl,h⟩:=h;exact Ya (t:=none) (f:=0) hmix (qg9 (Q:=fun G0 w0=>bodyPostD cx44.P Tryz.f44 (Went G0 w0 _ _)) (K0:=(kAt qsQ [1,1,0,2] [])) (F:=⟨[.c (.imm a),.c (ic b),.deadv,.deadv,pL 4,pL 5,pL 6,pL 7]++rep 8 .deadv++[.c (bc false)]++rep 13 .deadv,[(.loc 7,[ic c]),(.loc 6,[ic d]),(.loc 5,[ic e]),(.loc 4,[ic g,.nil,ic i,ic j,sc l,sc o,ic p])]⟩) (k:=18) (f:=62) (K1:=(kAt qsQ [1,1,0,3] [])) (F1:=⟨[.c (.imm a),.c (ic b),.deadv,.deadv,pL 4,pL 5,pL 6,pL 7]++rep 8 .deadv++[.c (bc false),.deadv,.c (.clo 62 [] [.ptr ⟨⟨.loc 4,[]⟩,0,0⟩,.ptr ⟨⟨.loc 5,[]⟩,0,0⟩,.ptr ⟨⟨.loc 6,[]⟩,0,0⟩,.ptr ⟨⟨.loc 7,[]⟩,0,0⟩])]++rep 11 .deadv,[(.loc 7,[ic c]),(.loc 6,[ic d]),(.loc 5,[ic e]),(.loc 4,[ic g,.nil,ic i,ic j,sc l,sc o,ic p])]⟩) (ad:=[]) (ps:=[]) ⟨Tryz.f62,by kernel_rfl,by kernel_rfl,by kernel_rfl⟩ (Ya (t:=some 18) (f:=62) hmix (ih _ _ h) (n:=6) (ad:=[(some 24,.call (.ret (.ag [ic z,.imm a1,ic b1,ic c1,sc d1,sc e1,ic f1])) [[.imm w,ic x,ic y]] false)]) (ps:=[_]) (m:=bm 30 1073479439) (ls:=[22]) (cs:=[]) (by kernel_rfl) ⟨(ev63 q),trivial⟩) (by kernel_rfl) trivial) (n:=3) (ad:=[]) (ps:=[]) (m:=bm 30 0) (ls:=[]) (cs:=[]) (by kernel_rfl) trivial
 |.h1 ..,h=>by rw[← aR h];exact Yz (nb:=0) (t:=none) (f:=0) hmix (n:=2000) (ad:=[]) (ps:=[]) (bx':=[]) (by kernel_rfl) trivial
 |.h2 a b c d e g i j l m,h=>by rw[← aR h];exact Yz (nb:=0) (t:=some 18) (f:=62) hmix (n:=2000) (ad:=[]) (ps:=[_]) (bx':=[[ic d,.imm e,ic g,ic i,sc j,sc l,ic m],[ic c],[ic b],[ic a]]) (by kernel_rfl) ⟨(qyx (b0_0:=d) (b0_1:=e) (b0_2:=g) (b0_3:=i) (b0_4:=j) (b0_5:=l) (b0_6:=m) (b1_0:=c) (b2_0:=b) (b3_0:=a)),trivial⟩
theorem ev44 {k:Nat}{a:Rs}{b:Int}{r:R44}(h:g44 k a b=some r):E44 a b r:=quh (ok44 _ _ _ h)
inductive S46 where
 |e (a:Rs)(b:Int)(c d:Rs)(e f:Int)(g:By)(i:Int)
 |h0 (a:Rs)(b:Int)(c d:Rs)(e f:Int)(g:By)(i:Int)
abbrev R46:=(Int×Int×Rs×Int×Rs×Rs×Int×Int×By×Int)⊕(Rs×Int×Rs×Rs×Int×Int×By×Int)
def qmr:R46→ARes
 |(.inl (a,b,_,_,_,_,_,_,_,_))=>.panic (.iface 50 (.agg #[.int .i64 a,.int .i64 b]))
 |(.inr (_,_,_,_,_,_,_,_))=>.ret .undef
def bx46:R46→List (List Cell)
 |(.inl (_,_,a,b,c,d,e,f,g,i))=>[[.imm a,ic b,.own 1 c,.own 7 d,ic e,ic f,sc g,ic i]]
 |(.inr (a,b,c,d,e,f,g,i))=>[[.imm a,ic b,.own 1 c,.own 7 d,ic e,ic f,sc g,ic i]]
noncomputable def qfc (k:Nat)(rec:S46→Option R46):S46→Option R46
 |.e a b c d e f g i=>
  (g41b k (strB [83,84,82,65,84,69,71,89]) a b c d e f g i).bind fun j=>
  altC j (fun l=>
    tup6 l fun m n o p q t=>
    some (.inl (m,n,o,p,q,t,e,f,g,i))) (fun l=>
    tup4 l fun o p q t=>
    (g43b k (strB [83,84,82,73,67,84]) o p q t e f g i).bind fun u=>
    tup4 u fun v w x y=>
    bif v then
     rec (.h0 w p x y 1 f g i)
    else
     (g43b k (strB [78,69,88,84]) w p x y e f g i).bind fun z=>
     tup4 z fun a1 b1 c1 d1=>
     bif a1 then
      rec (.h0 b1 p c1 d1 2 f g i)
     else
      (g43b k (strB [65,78,89]) b1 p c1 d1 e f g i).bind fun e1=>
      tup4 e1 fun f1 g1 i1 j1=>
      bif f1 then
       rec (.h0 g1 p i1 j1 3 f g i)
      else
       (g48b k 13 g1 p i1 j1 e f g i).bind fun l1=>
       tup5 l1 fun m1 n1 o1 p1 q1=>
       some (.inl (m1,n1,o1,p,p1,q1,e,f,g,i)))
 |.h0 a b c d e f g i=>
  (g41b k (strB [87,73,84,72,73,78]) a (IntKind.i64.wrap (b+1)) c d e f g i).bind fun j=>
  altC j (fun l=>
    tup6 l fun m n o p q t=>
    some (.inl (m,n,o,p,q,t,e,f,g,i))) (fun l=>
    tup4 l fun o p q t=>
    (g47b k o p q t e f g i).bind fun u=>
    tup8 u fun v _ w _ _ x y z=>
    bif v != 3 then
     (g48b k 13 x p y z e f g i).bind fun a1=>
     tup5 a1 fun b1 c1 d1 e1 f1=>
     some (.inl (b1,c1,d1,p,e1,f1,e,f,g,i))
    else
     bif decide (w>1152921504606846976)then
      (g48b k 1 x p y z e f g i).bind fun g1=>
      tup5 g1 fun i1 j1 l1 m1 n1=>
      some (.inl (i1,j1,l1,p,m1,n1,e,f,g,i))
     else
      (g43b k (strB [80,65,82,84,73,84,73,79,78]) x (IntKind.i64.wrap (p+1)) y z e w g i).bind fun g1=>
      tup4 g1 fun o1 l1 m1 n1=>
      bif o1 then
       (g41b k (strB [66,89]) l1 (IntKind.i64.wrap ((IntKind.i64.wrap (p+1))+1)) m1 n1 e w g i).bind fun p1=>
       altC p1 (fun q1=>
         tup6 q1 fun t1 u1 v1 w1 x1 y1=>
         some (.inl (t1,u1,v1,w1,x1,y1,e,w,g,i))) (fun q1=>
         tup4 q1 fun v1 w1 x1 y1=>
         (g47b k v1 w1 x1 y1 e w g i).bind fun z1=>
         tup8 z1 fun _ _ _ _ a2 b2 c2 d2=>
         (g64b k b2 w1 c2 d2 e w g a2).bind fun e2=>
         altC e2 (fun f2=>
           tup6 f2 fun g2 i2 j2 l2 m2 n2=>
           some (.inl (g2,i2,j2,l2,m2,n2,e,w,g,a2))) (fun f2=>
           tup5 f2 fun o2 j2 l2 m2 n2=>
           some (.inr (j2,l2,m2,n2,e,w,o2,a2))))
      else
       some (.inr (l1,IntKind.i64.wrap (p+1),m1,n1,e,w,g,i)))
noncomputable def g46 (k:Nat)(a:Rs)(b:Int)(c d:Rs)(e f:Int)(g:By)(i:Int):Option R46:=itS qfc k (.e a b c d e f g i)
noncomputable def P46:S46→R46→Prop
 |.e a b c d e f g i,r=>Fin cx46 Tryz.f46 [.code qg7] (fr0 Tryz.f46 [pP 0] [[.imm a,ic b,.own 1 c,.own 7 d,ic e,ic f,sc g,ic i]]) (qmr r) (bx46 r)
 |.h0 a b c d e f g i,r=>Fin cx46 Tryz.f46 (kAt qg7 [1,1,2] []) ⟨[pP 0]++rep 119 .deadv,[(.par 0,[.imm a,ic b,.own 1 c,.own 7 d,ic e,ic f,sc g,ic i])]⟩ (qmr r) (bx46 r)
abbrev E46 (a:Rs)(b:Int)(c d:Rs)(e f:Int)(g:By)(i:Int)(r:R46):Prop:=Ev Tryz.prog noHand 46 [pP 0] [[.imm a,ic b,.own 1 c,.own 7 d,ic e,ic f,sc g,ic i]] (qmr r) (bx46 r)
theorem qnS {a:Rs}{b:Int}{c d:Rs}{e f:Int}{g:By}{i:Int}{r:R46}(h:P46 (.e a b c d e f g i) r):E46 a b c d e f g i r:=evF h
theorem ok46:∀ k s r,itS qfc k s=some r→P46 s r:=qF fun k rec ih s r h=>match s,h with
 |.e ..,h=>by
  obtain⟨_,a,h⟩:=qh h;replace h:=qf h;rcases h with⟨_,rfl,h⟩|⟨_,rfl,h⟩
  · replace h:=t6 h;cases h;exact mF 1 [cA 6 (vk a)]
  ·
   replace h:=t4 h;obtain⟨_,b,h⟩:=qh h;replace h:=qu7 h;obtain⟨_,_,_,_,rfl,h⟩:=h;replace h:=qa h;rcases h with⟨rfl,h⟩|⟨rfl,h⟩
   · exact mA 1 (ih _ _ h) 9 [cA 6 (vk a),cA 15 (zt b)] 120 1329227995784915872903807060280344574
   ·
    obtain⟨_,c,h⟩:=qh h;replace h:=qu7 h;obtain⟨_,_,_,_,rfl,h⟩:=h;replace h:=qa h;rcases h with⟨rfl,h⟩|⟨rfl,h⟩
    · exact mA 1 (ih _ _ h) 12 [cA 6 (vk a),cA 15 (zt b),cA 24 (zt c)] 120 1329227995784915872903807060280344574
    · obtain⟨_,d,h⟩:=qh h;replace h:=qu7 h;obtain⟨_,_,_,_,rfl,h⟩:=h;replace h:=qa h;rcases h with⟨rfl,h⟩|⟨rfl,h⟩
      · exact mA 1 (ih _ _ h) 15 [cA 6 (vk a),cA 15 (zt b),cA 24 (zt c),cA 33 (zt d)] 120 1329227995784915872903807060280344574
      · obtain⟨_,e,h⟩:=b5 h;cases h;exact mF 1 [cA 6 (vk a),cA 15 (zt b),cA 24 (zt c),cA 33 (zt d),cA 10 (qvV e)]
 |.h0 ..,h=>by
  obtain⟨_,a,h⟩:=qh h;replace h:=qf h;rcases h with⟨_,rfl,h⟩|⟨_,rfl,h⟩
  · replace h:=t6 h;cases h;exact mF 1 [cA 50 (vk a)]
  ·
   replace h:=t4 h;obtain⟨_,b,h⟩:=b8 h;rcases qa h with⟨c,h⟩|⟨c,h⟩
   · obtain⟨_,d,h⟩:=b5 h;cases h;exact mF 1 [cA 50 (vk a),cA 54 (qu6 b),tT 58 c,cA 62 (qvV d)]
   ·
    rcases qa h with⟨e,h⟩|⟨e,h⟩
    · obtain⟨_,f,h⟩:=b5 h;cases h;exact mF 1 [cA 50 (vk a),cA 54 (qu6 b),tF 58 c,tT 66 e,cA 70 (qvV f)]
    ·
     obtain⟨_,f,h⟩:=qh h;replace h:=qu7 h;obtain⟨_,_,_,_,rfl,h⟩:=h;replace h:=qa h;rcases h with⟨rfl,h⟩|⟨rfl,h⟩
     · obtain⟨_,g,h⟩:=qh h;replace h:=qf h;rcases h with⟨_,rfl,h⟩|⟨_,rfl,h⟩
       · replace h:=t6 h;cases h;exact mF 1 [cA 50 (vk a),cA 54 (qu6 b),tF 58 c,tF 66 e,cA 89 (zt f),cA 102 (vk g)]
       · replace h:=t4 h;obtain⟨_,i,h⟩:=b8 h;obtain⟨_,j,h⟩:=qh h;replace h:=qf h;rcases h with⟨_,rfl,h⟩|⟨_,rfl,h⟩
         · replace h:=t6 h;cases h;exact mF 1 [cA 50 (vk a),cA 54 (qu6 b),tF 58 c,tF 66 e,cA 89 (zt f),cA 102 (vk g),cA 107 (qu6 i),cA 116 (qv6 j)]
         · replace h:=t5 h;cases h;exact mF 1 [cA 50 (vk a),cA 54 (qu6 b),tF 58 c,tF 66 e,cA 89 (zt f),cA 102 (vk g),cA 107 (qu6 i),cA 116 (qv6 j)]
     · cases h;exact mF 1 [cA 50 (vk a),cA 54 (qu6 b),tF 58 c,tF 66 e,cA 89 (zt f)]
theorem ev46 {k:Nat}{a:Rs}{b:Int}{c d:Rs}{e f:Int}{g:By}{i:Int}{r:R46}(h:g46 k a b c d e f g i=some r):E46 a b c d e f g i r:=qnS (ok46 _ _ _ h)
inductive S45b where
 |e (a:Rs)(b:Int)(c:Rs)(d e:Int)(f g:By)(i:Int)
abbrev R45b:=Rs
def qsm:R45b→ARes
 |r=>.ret (.c (.own 7 r))
def qta:R45b→List (List Cell)
 |_=>[]
noncomputable def qwT (k:Nat)(rec:S45b→Option R45b):S45b→Option R45b
 |.e a b c d e f g i=>
  bif b != 13 then
   gd (apOk 88 7 a [[ic b,.imm c,ic d,ic e,sc f,sc g,ic i]]) <|
   some (a++[[ic b,.imm c,ic d,ic e,sc f,sc g,ic i]])
  else
   ixR c 0 fun j=>
   qE j fun l m n o p q t=>
   (rec (.e a l m n o p q t)).bind fun u=>
   ixR c 1 fun v=>
   qE v fun w x y z a1 b1 c1=>
   (rec (.e u w x y z a1 b1 c1)).bind fun d1=>
   some d1
noncomputable def g45b (k:Nat)(a:Rs)(b:Int)(c:Rs)(d e:Int)(f g:By)(i:Int):Option R45b:=itS qwT k (.e a b c d e f g i)
noncomputable def P45b:S45b→R45b→Prop
 |.e a b c d e f g i,r=>Fin cx45 Tryz.f45 [.code qm7] (fr0 Tryz.f45 [.c (.own 7 a),.ag [ic b,.imm c,ic d,ic e,sc f,sc g,ic i]] []) (qsm r) (qta r)
abbrev E45b (a:Rs)(b:Int)(c:Rs)(d e:Int)(f g:By)(i:Int)(r:R45b):Prop:=Ev Tryz.prog noHand 45 [.c (.own 7 a),.ag [ic b,.imm c,ic d,ic e,sc f,sc g,ic i]] [] (qsm r) (qta r)
theorem qqH {a:Rs}{b:Int}{c:Rs}{d e:Int}{f g:By}{i:Int}{r:R45b}(h:P45b (.e a b c d e f g i) r):E45b a b c d e f g i r:=evF h
theorem qzA:∀ k s r,itS qwT k s=some r→P45b s r:=qF fun k rec ih s r h=>match s,h with
 |.e _ a b c d e f g,h=>by
  rcases qa h with⟨i,h⟩|⟨i,h⟩
  · obtain⟨j,h⟩:=zo h;cases h;exact mF 0 [tT 7 i,⟨(some 11,.okE false),[_],⟨okF [[ic a,.imm b,ic c,ic d,sc e,sc f,ic g]] j,trivial⟩⟩]
  · obtain⟨_,l,h⟩:=YJ h;replace h:=zB h;obtain⟨_,_,_,_,_,_,_,rfl,h⟩:=h;obtain⟨_,m,h⟩:=qh h;obtain⟨_,n,h⟩:=YJ h;replace h:=zB h;obtain⟨_,_,_,_,_,_,_,rfl,h⟩:=h;obtain⟨_,o,h⟩:=qh h;cases h;exact mF 0 [tF 7 i,rA 15 l,cA 17 (qqH (ih _ _ m)),rA 20 n,cA 22 (qqH (ih _ _ o))]
theorem qze {k:Nat}{a:Rs}{b:Int}{c:Rs}{d e:Int}{f g:By}{i:Int}{r:R45b}(h:g45b k a b c d e f g i=some r):E45b a b c d e f g i r:=qqH (qzA _ _ _ h)
inductive S45 where
 |e (a:Int)(b:Rs)(c d:Int)(e f:By)(g:Int)
abbrev R45:=Rs
def qly:R45→ARes
 |r=>.ret (.c (.own 7 r))
def bx45:R45→List (List Cell)
 |_=>[]
noncomputable def qxK (k:Nat)(rec:S45→Option R45):S45→Option R45
 |.e a b c d e f g=>
  bif a != 13 then
   some [[ic a,.imm b,ic c,ic d,sc e,sc f,ic g]]
  else
   ixR b 0 fun i=>
   qE i fun j l m n o p q=>
   (rec (.e j l m n o p q)).bind fun t=>
   ixR b 1 fun u=>
   qE u fun v w x y z a1 b1=>
   (g45b k t v w x y z a1 b1).bind fun c1=>
   some c1
noncomputable def g45 (k:Nat)(a:Int)(b:Rs)(c d:Int)(e f:By)(g:Int):Option R45:=itS qxK k (.e a b c d e f g)
noncomputable def P45:S45→R45→Prop
 |.e a b c d e f g,r=>Fin cx45 Tryz.f45 [.code qm7] (fr0 Tryz.f45 [.c .nil,.ag [ic a,.imm b,ic c,ic d,sc e,sc f,ic g]] []) (qly r) (bx45 r)
abbrev E45 (a:Int)(b:Rs)(c d:Int)(e f:By)(g:Int)(r:R45):Prop:=Ev Tryz.prog noHand 45 [.c .nil,.ag [ic a,.imm b,ic c,ic d,sc e,sc f,ic g]] [] (qly r) (bx45 r)
theorem qcv {a:Int}{b:Rs}{c d:Int}{e f:By}{g:Int}{r:R45}(h:P45 (.e a b c d e f g) r):E45 a b c d e f g r:=evF h
theorem ok45:∀ k s r,itS qxK k s=some r→P45 s r:=qF fun k rec ih s r h=>match s,h with
 |.e ..,h=>by
  rcases qa h with⟨a,h⟩|⟨a,h⟩
  · cases h;exact mF 0 [tT 7 a]
  · obtain⟨_,b,h⟩:=YJ h;replace h:=zB h;obtain⟨_,_,_,_,_,_,_,rfl,h⟩:=h;obtain⟨_,c,h⟩:=qh h;obtain⟨_,d,h⟩:=YJ h;replace h:=zB h;obtain⟨_,_,_,_,_,_,_,rfl,h⟩:=h;obtain⟨_,e,h⟩:=qh h;cases h;exact mF 0 [tF 7 a,rA 15 b,cA 17 (qcv (ih _ _ c)),rA 20 d,cA 22 (qze e)]
theorem ev45 {k:Nat}{a:Int}{b:Rs}{c d:Int}{e f:By}{g:Int}{r:R45}(h:g45 k a b c d e f g=some r):E45 a b c d e f g r:=qcv (ok45 _ _ _ h)
inductive S21b where
 |e (a:Rs)(b:Int)(c d:Rs)(e f:Int)(g:By)(i:Int)
 |h0 (a:Rs)(b:Int)(c d:Rs)(e f:Int)(g:By)(i:Int)
 |h1 (a b c:Int)(d:Bool)(e:Int)(f:Rs)(g i:Int)(j l:By)(m:Int)(n:Rs)(o:Int)(p q:Rs)(t u:Int)(v:By)(w:Int)
 |h2 (a:Rs)(b:Int)(c d:Rs)(e f:Int)(g:By)(i:Int)
abbrev R21b:=(Int×Int×Rs×Int×Rs×Rs×Int×Int×By×Int)⊕(Rs×Int×Rs×Rs×Int×Int×By×Int)
def qvW:R21b→ARes
 |(.inl (a,b,_,_,_,_,_,_,_,_))=>.panic (.iface 50 (.agg #[.int .i64 a,.int .i64 b]))
 |(.inr (_,_,_,_,_,_,_,_))=>.ret .undef
def qwC:R21b→List (List Cell)
 |(.inl (_,_,a,b,c,d,e,f,g,i))=>[[.imm a,ic b,.own 1 c,.own 7 d,ic e,ic f,sc g,ic i]]
 |(.inr (a,b,c,d,e,f,g,i))=>[[.imm a,ic b,.own 1 c,.own 7 d,ic e,ic f,sc g,ic i]]
noncomputable def qwP (k:Nat)(rec:S21b→Option R21b):S21b→Option R21b
 |.e a b c d e f g i=>
  (g41b k (strB [80,65,84,84,69,82,78]) a b c d e f g i).bind fun j=>
  altC j (fun l=>
    tup6 l fun m n o p q t=>
    some (.inl (m,n,o,p,q,t,e,f,g,i))) (fun l=>
    tup4 l fun o p q t=>
    (g42b k o p q t e f g i).bind fun u=>
    altC u (fun v=>
      tup6 v fun w x y z a1 b1=>
      some (.inl (w,x,y,z,a1,b1,e,f,g,i))) (fun v=>
      tup4 v fun y z a1 b1=>
      rec (.h0 y z a1 b1 e f g i)))
 |.h0 a b c d e f g i=>
  (g43b k (strB [124]) a b c d e f g i).bind fun j=>
  tup4 j fun l m n o=>
  bif l then
   (g42b k m (IntKind.i64.wrap (b+1)) n o e f g i).bind fun p=>
   altC p (fun q=>
     tup6 q fun t u v w x y=>
     some (.inl (t,u,v,w,x,y,e,f,g,i))) (fun q=>
     tup4 q fun v w x y=>
     rec (.h0 v w x y e f g i))
  else
   (g43b k (strB [87,72,69,82,69]) m b n o e f g i).bind fun p=>
   tup4 p fun z a1 b1 c1=>
   bif z then
    (g44 k a1 (IntKind.i64.wrap (b+1))).bind fun d1=>
    altC d1 (fun e1=>
      tup9 e1 fun f1 g1 i1 j1 l1 m1 n1 o1 p1=>
      rec (.h1 n1 o1 p1 (p1 != 0) f1 [] g1 i1 j1 l1 m1 a1 (IntKind.i64.wrap (b+1)) b1 c1 e f g i)) (fun e1=>
      ql e1 fun f1 q1 g1 i1 j1 l1 m1 n1 o1 p1=>
      rec (.h1 n1 o1 p1 (p1 != 0) f1 q1 g1 i1 j1 l1 m1 a1 (IntKind.i64.wrap (b+1)) b1 c1 e f g i))
   else
    rec (.h2 a1 b b1 c1 e f g i)
 |.h1 a b c d e f g i j l m n o p q t u v w=>
  bif d then
   some (.inl (b,c,n,o,p,q,t,u,v,w))
  else
   (g45 k e f g i j l m).bind fun x=>
   rec (.h2 n a p x t u v w)
 |.h2 a b c d e f g i=>
  (g46 k a b c d e f g i).bind fun j=>
  altC j (fun l=>
    ql l fun m n o p q t u v w x=>
    some (.inl (m,n,o,p,q,t,u,v,w,x))) (fun l=>
    tup8 l fun o p q t u v w x=>
    (g47b k o p q t u v w x).bind fun y=>
    tup8 y fun z _ _ _ _ a1 b1 c1=>
    bif z != 0 then
     (g48b k 13 a1 p b1 c1 u v w x).bind fun d1=>
     tup5 d1 fun e1 f1 g1 i1 j1=>
     some (.inl (e1,f1,g1,p,i1,j1,u,v,w,x))
    else
     some (.inr (a1,p,b1,c1,u,v,w,x)))
noncomputable def g21b (k:Nat)(a:Rs)(b:Int)(c d:Rs)(e f:Int)(g:By)(i:Int):Option R21b:=itS qwP k (.e a b c d e f g i)
noncomputable def P21b:S21b→R21b→Prop
 |.e a b c d e f g i,r=>Fin cx21 Tryz.f21 [.code qfp] (fr0 Tryz.f21 [pP 0] [[.imm a,ic b,.own 1 c,.own 7 d,ic e,ic f,sc g,ic i]]) (qvW r) (qwC r)
 |.h0 a b c d e f g i,r=>Fin cx21 Tryz.f21 (kAt qfp [1,1,0,0,4] []) ⟨[pP 0]++rep 84 .deadv,[(.par 0,[.imm a,ic b,.own 1 c,.own 7 d,ic e,ic f,sc g,ic i])]⟩ (qvW r) (qwC r)
 |.h1 a b c d e f g i j l m n o p q t u v w,r=>Fin cx21 Tryz.f21 (kAt qfp [1,1,1,0,1,0,1,1,0,1,2] []) ⟨[pP 0,.deadv,pL 2,.c (ic a),.c (ic b),.c (ic c)]++rep 51 .deadv++[.c (bc d)]++rep 27 .deadv,[(.loc 2,[ic e,.imm f,ic g,ic i,sc j,sc l,ic m]),(.par 0,[.imm n,ic o,.own 1 p,.own 7 q,ic t,ic u,sc v,ic w])]⟩ (qvW r) (qwC r)
 |.h2 a b c d e f g i,r=>Fin cx21 Tryz.f21 (kAt qfp [1,1,1,1,2] []) ⟨[pP 0]++rep 84 .deadv,[(.par 0,[.imm a,ic b,.own 1 c,.own 7 d,ic e,ic f,sc g,ic i])]⟩ (qvW r) (qwC r)
abbrev E21b (a:Rs)(b:Int)(c d:Rs)(e f:Int)(g:By)(i:Int)(r:R21b):Prop:=Ev Tryz.prog noHand 21 [pP 0] [[.imm a,ic b,.own 1 c,.own 7 d,ic e,ic f,sc g,ic i]] (qvW r) (qwC r)
theorem qyE {a:Rs}{b:Int}{c d:Rs}{e f:Int}{g:By}{i:Int}{r:R21b}(h:P21b (.e a b c d e f g i) r):E21b a b c d e f g i r:=evF h
theorem qzw:∀ k s r,itS qwP k s=some r→P21b s r:=qF fun k rec ih s r h=>match s,h with
 |.e ..,h=>by
  obtain⟨_,a,h⟩:=qh h;replace h:=qf h;rcases h with⟨_,rfl,h⟩|⟨_,rfl,h⟩
  · replace h:=t6 h;cases h;exact mF 1 [cA 9 (vk a)]
  · replace h:=t4 h;obtain⟨_,b,h⟩:=qh h;replace h:=qf h;rcases h with⟨_,rfl,h⟩|⟨_,rfl,h⟩
    · replace h:=t6 h;cases h;exact mF 1 [cA 9 (vk a),cA 11 (qw8 b)]
    · replace h:=t4 h;exact mA 1 (ih _ _ h) 7 [cA 9 (vk a),cA 11 (qw8 b)] 85 38685626227668133590597630
 |.h0 ..,h=>by
  obtain⟨_,a,h⟩:=qh h;replace h:=qu7 h;obtain⟨_,_,_,_,rfl,h⟩:=h;replace h:=qa h;rcases h with⟨rfl,h⟩|⟨rfl,h⟩
  · obtain⟨_,b,h⟩:=qh h;replace h:=qf h;rcases h with⟨_,rfl,h⟩|⟨_,rfl,h⟩
    · replace h:=t6 h;cases h;exact mF 1 [cA 15 (zt a),cA 26 (qw8 b)]
    · replace h:=t4 h;exact mA 1 (ih _ _ h) 11 [cA 15 (zt a),cA 26 (qw8 b)] 85 38685626227668133590597630
  ·
   obtain⟨_,b,h⟩:=qh h;replace h:=qu7 h;obtain⟨_,_,_,_,rfl,h⟩:=h;replace h:=qa h;rcases h with⟨rfl,h⟩|⟨rfl,h⟩
   · obtain⟨_,c,h⟩:=qh h;replace h:=qf h;rcases h with⟨_,rfl,h⟩|⟨_,rfl,h⟩
     · replace h:=t9 h;exact mG 1 (ih _ _ h) 17 [cA 15 (zt a),cA 30 (zt b),cA 51 (ev44 c)] 85 38685626083552945514741698 [] [(⟨⟨.loc 2,[]⟩,0,1⟩,none)]
     · replace h:=t10 h;exact mA 1 (ih _ _ h) 17 [cA 15 (zt a),cA 30 (zt b),cA 51 (ev44 c)] 85 38685626083552945514741698
   · exact mA 1 (ih _ _ h) 11 [cA 15 (zt a),cA 30 (zt b)] 85 38685626227668133590597630
 |.h1 ..,h=>by
  replace h:=qa h;rcases h with⟨rfl,h⟩|⟨rfl,h⟩
  · cases h;exact mF 1 []
  · obtain⟨_,a,h⟩:=qh h;exact mG 1 (ih _ _ h) 5 [cA 69 (ev45 a)] 85 38685626227668133590597630 [2] []
 |.h2 ..,h=>by
  obtain⟨_,a,h⟩:=qh h;replace h:=qf h;rcases h with⟨_,rfl,h⟩|⟨_,rfl,h⟩
  · replace h:=t10 h;cases h;exact mF 1 [cA 74 (ev46 a)]
  · replace h:=t8 h;obtain⟨_,b,h⟩:=b8 h;rcases qa h with⟨c,h⟩|⟨c,h⟩
    · obtain⟨_,d,h⟩:=b5 h;cases h;exact mF 1 [cA 74 (ev46 a),cA 78 (qu6 b),tT 80 c,cA 84 (qvV d)]
    · cases h;exact mF 1 [cA 74 (ev46 a),cA 78 (qu6 b),tF 80 c]
theorem qx0 {k:Nat}{a:Rs}{b:Int}{c d:Rs}{e f:Int}{g:By}{i:Int}{r:R21b}(h:g21b k a b c d e f g i=some r):E21b a b c d e f g i r:=qyE (qzw _ _ _ h)
inductive S8 where
 |e (a:By)
 |h0 (a:Rs)(b:Bool)(c d e f:Int)(g:By)(i:Int)
 |h1 (a b:Int)(c d:Rs)(e f:Int)(g:By)(i:Int)
 |h2 (a:Rs)(b:Int)(c d:Rs)(e f:Int)(g:By)(i j l m n:Int)(o:By)(p:Int)
 |h3 (a b:Int)(c d:Rs)(e f:Int)(g:By)(i:Int)
 |h4 (a b:Int)(c d:Rs)(e f:Int)(g:By)(i:Int)
abbrev R8:=(Rs×Rs×Int×Int×By×Int×Int×Int)⊕(Int×Int×By×Int×Int×Int)
def res8:R8→ARes
 |(.inl (a,b,c,d,e,f,g,i))=>.ret ⟨.tup [true,false,false],[[.imm a,.imm b,ic c,ic d,sc e,ic f],[ic g],[ic i]]⟩
 |(.inr (a,b,c,d,e,f))=>.ret ⟨.tup [true,false,false],[[.nil,.nil,ic a,ic b,sc c,ic d],[ic e],[ic f]]⟩
def bx8:R8→List (List Cell)
 |(.inl (_,_,_,_,_,_,_,_))=>[]
 |(.inr (_,_,_,_,_,_))=>[]
noncomputable def qbD (k:Nat)(rec:S8→Option R8):S8→Option R8
 |.e a=>
  (g19 k a).bind fun b=>
  altC b (fun c=>
    tup3 c fun d e f=>
    rec (.h0 d (f != 0) f e 0 0 (strB []) 0)) (fun c=>
    tup2 c fun e f=>
    rec (.h0 [] (f != 0) f e 0 0 (strB []) 0))
 |.h0 a b c d e f g i=>
  bif b then
   rec (.h1 c d [] [] 0 0 (strB []) 0)
  else
   rec (.h2 a 0 [] [] 0 0 (strB []) 0 c d e f g i)
 |.h1 a b c d e f g i=>some (.inl (c,d,e,f,g,i,b,a))
 |.h2 a b c d e f g i ..=>
  (g21b k a b c d e f g i).bind fun j=>
  altC j (fun l=>
    ql l fun m n _ _ o p q t u v=>
    some (.inr (0,0,strB [],0,m,n))) (fun l=>
    tup8 l fun _ _ o p q t u v=>
    (g12 k (qG o) (qG p) q t u v).bind fun w=>
    bif decide (w>200)then
     rec (.h3 2 0 [] [] 0 0 (strB []) 0)
    else
     rec (.h4 0 0 (qG o) (qG p) q t u v))
 |.h3 a b c d e f g i=>some (.inl (c,d,e,f,g,i,b,a))
 |.h4 a b c d e f g i=>some (.inl (c,d,e,f,g,i,b,a))
noncomputable def g8 (k:Nat)(a:By):Option R8:=itS qbD k (.e a)
noncomputable def P8:S8→R8→Prop
 |.e a,r=>FinD cx8 Tryz.f8 (DOf cx8.P none 0) [.code qk4] (fr0 Tryz.f8 [.c (sc a)] []) (res8 r) (bx8 r)
 |.h0 a b c d e f g i,r=>FinD cx8 Tryz.f8 (DOf cx8.P none 0) (kAt qk4 [1,1,0,1,2] []) ⟨[.deadv,.deadv,pL 2,pL 3,pL 4,.c (.imm a)]++rep 8 .deadv++[.c (bc b)]++rep 21 .deadv,[(.loc 4,[ic c]),(.loc 3,[ic d]),(.loc 2,[.nil,.nil,ic e,ic f,sc g,ic i])]⟩ (res8 r) (bx8 r)
 |.h1 a b c d e f g i,r=>FinD cx8 Tryz.f8 (DOf cx8.P none 0) (kAt qk4 [1,1,0,1,0,1,2] []) ⟨[.deadv,.deadv,pL 2,pL 3,pL 4]++rep 31 .deadv,[(.loc 4,[ic a]),(.loc 3,[ic b]),(.loc 2,[.imm c,.imm d,ic e,ic f,sc g,ic i])]⟩ (res8 r) (bx8 r)
 |.h2 a b c d e f g i j l m n o p,r=>FinD cx8 Tryz.f8 (DOf cx8.P (some 18) 20) (kAt qk4 [1,1,1,1,1,0,2] []) ⟨[.deadv,.deadv,pL 2,pL 3,pL 4,.deadv,pL 22]++rep 11 .deadv++[.c (.clo 20 [] [.ptr ⟨⟨.loc 2,[]⟩,0,0⟩,.ptr ⟨⟨.loc 3,[]⟩,0,0⟩,.ptr ⟨⟨.loc 4,[]⟩,0,0⟩])]++rep 17 .deadv,[(.loc 22,[.imm a,ic b,.own 1 c,.own 7 d,ic e,ic f,sc g,ic i]),(.loc 4,[ic j]),(.loc 3,[ic l]),(.loc 2,[.nil,.nil,ic m,ic n,sc o,ic p])]⟩ (res8 r) (bx8 r)
 |.h3 a b c d e f g i,r=>FinD cx8 Tryz.f8 (DOf cx8.P (some 18) 20) (kAt qk4 [1,1,1,1,1,1,0,1,0,1,2] []) ⟨[.deadv,.deadv,pL 2,pL 3,pL 4]++rep 13 .deadv++[.c (.clo 20 [] [.ptr ⟨⟨.loc 2,[]⟩,0,0⟩,.ptr ⟨⟨.loc 3,[]⟩,0,0⟩,.ptr ⟨⟨.loc 4,[]⟩,0,0⟩])]++rep 17 .deadv,[(.loc 4,[ic a]),(.loc 3,[ic b]),(.loc 2,[.imm c,.imm d,ic e,ic f,sc g,ic i])]⟩ (res8 r) (bx8 r)
 |.h4 a b c d e f g i,r=>FinD cx8 Tryz.f8 (DOf cx8.P (some 18) 20) (kAt qk4 [1,1,1,1,1,1,1,1,2] []) ⟨[.deadv,.deadv,pL 2,pL 3,pL 4]++rep 13 .deadv++[.c (.clo 20 [] [.ptr ⟨⟨.loc 2,[]⟩,0,0⟩,.ptr ⟨⟨.loc 3,[]⟩,0,0⟩,.ptr ⟨⟨.loc 4,[]⟩,0,0⟩])]++rep 17 .deadv,[(.loc 4,[ic a]),(.loc 3,[ic b]),(.loc 2,[.imm c,.imm d,ic e,ic f,sc g,ic i])]⟩ (res8 r) (bx8 r)
abbrev E8 (a:By)(r:R8):Prop:=Ev Tryz.prog noHand 8 [.c (sc a)] [] (res8 r) (bx8 r)
theorem evr8 {a:By}{r:R8}(h:P8 (.e a) r):E8 a r:=evD h
theorem qzf {b0_2:Int}{b0_3:Int}{b0_4:ByteArray}{b0_5:Int}{b1_0:Int}{b2_0:Int}{pv_i00:Int}{pv_i01:Int}:EvD Tryz.prog (.panicking [{ v:=.iface 50 (.agg #[.int .i64 pv_i00,.int .i64 pv_i01]),recovered:=false }]) (.panicking [{ v:=.iface 50 (.agg #[.int .i64 pv_i00,.int .i64 pv_i01]),recovered:=true }]) 20 [pP 0,pP 1,pP 2] [[.nil,.nil,ic b0_2,ic b0_3,sc b0_4,ic b0_5],[ic b1_0],[ic b2_0]] (.ret .undef) [[.nil,.nil,ic 0,ic 0,sc (strB []),ic 0],[ic pv_i00],[ic pv_i01]]:=qcj (fn:=Tryz.f20) (body:=qdw) (cx:=cx20) (nb:=3) (n:=2000) (val:=.iface 50 (.agg #[.int .i64 pv_i00,.int .i64 pv_i01])) (ad1:=[]) (ad2:=[]) (ps:=[]) (by kernel_rfl) (by kernel_rfl) rfl hmix rfl (.inl ⟨rfl,rfl⟩) (by kernel_rfl) trivial
theorem qyy {b0_0:Rs}{b0_1:Rs}{b0_2:Int}{b0_3:Int}{b0_4:ByteArray}{b0_5:Int}{b1_0:Int}{b2_0:Int}:EvD Tryz.prog .returning .returning 20 [pP 0,pP 1,pP 2] [[.imm b0_0,.imm b0_1,ic b0_2,ic b0_3,sc b0_4,ic b0_5],[ic b1_0],[ic b2_0]] (.ret .undef) [[.imm b0_0,.imm b0_1,ic b0_2,ic b0_3,sc b0_4,ic b0_5],[ic b1_0],[ic b2_0]]:=qcj (fn:=Tryz.f20) (body:=qdw) (cx:=cx20) (nb:=3) (n:=2000) (val:=.nilIface) (ad1:=[]) (ad2:=[]) (ps:=[]) (by kernel_rfl) (by kernel_rfl) rfl hmix rfl (.inr ⟨rfl,rfl,rfl⟩) (by kernel_rfl) trivial
theorem ok8:∀ k s r,itS qbD k s=some r→P8 s r:=qF fun k rec ih s r h=>match s,h with
 |.e ..,h=>by
  obtain⟨_,a,h⟩:=qh h;replace h:=qf h;rcases h with⟨_,rfl,h⟩|⟨_,rfl,h⟩
  · replace h:=qx4 h;obtain⟨b,c,d,rfl,h⟩:=h;exact Ya (t:=none) (f:=0) hmix (ih _ _ h) (n:=7) (ad:=[(some 9,.call (.ret ⟨.tup [false,false,false],[[.imm b],[ic c],[ic d]]⟩) [] false)]) (ps:=[_]) (m:=bm 36 68719460291) (ls:=[]) (cs:=[]) (by kernel_rfl) ⟨(ev19 a),trivial⟩
  · replace h:=QD h;obtain⟨c,d,rfl,h⟩:=h;exact Ya (t:=none) (f:=0) hmix (ih _ _ h) (n:=7) (ad:=[(some 9,.call (.ret ⟨.tup [false,false,false],[[.nil],[ic c],[ic d]]⟩) [] false)]) (ps:=[_]) (m:=bm 36 68719460291) (ls:=[]) (cs:=[(⟨⟨.slot 5,[]⟩,0,0⟩,none)]) (by kernel_rfl) ⟨(ev19 a),trivial⟩
 |.h0 a _ b c d e g i,h=>by
  replace h:=qa h;rcases h with⟨rfl,h⟩|⟨rfl,h⟩
  · exact Ya (t:=none) (f:=0) hmix (ih _ _ h) (n:=3) (ad:=[]) (ps:=[]) (m:=bm 36 68719476707) (ls:=[]) (cs:=[(⟨⟨.loc 2,[]⟩,0,0⟩,none),(⟨⟨.loc 2,[]⟩,0,1⟩,none)]) (by kernel_rfl) trivial
  · exact Ya (t:=none) (f:=0) hmix (qg9 (Q:=fun G0 w0=>bodyPostD cx8.P Tryz.f8 (Went G0 w0 _ _)) (K0:=(kAt qk4 [1,1,1,0,2] [])) (F:=⟨[.deadv,.deadv,pL 2,pL 3,pL 4,.c (.imm a)]++rep 8 .deadv++[.c (bc false)]++rep 21 .deadv,[(.loc 4,[ic b]),(.loc 3,[ic c]),(.loc 2,[.nil,.nil,ic d,ic e,sc g,ic i])]⟩) (k:=18) (f:=20) (K1:=(kAt qk4 [1,1,1,0,3] [])) (F1:=⟨[.deadv,.deadv,pL 2,pL 3,pL 4,.c (.imm a)]++rep 8 .deadv++[.c (bc false)]++rep 3 .deadv++[.c (.clo 20 [] [.ptr ⟨⟨.loc 2,[]⟩,0,0⟩,.ptr ⟨⟨.loc 3,[]⟩,0,0⟩,.ptr ⟨⟨.loc 4,[]⟩,0,0⟩])]++rep 17 .deadv,[(.loc 4,[ic b]),(.loc 3,[ic c]),(.loc 2,[.nil,.nil,ic d,ic e,sc g,ic i])]⟩) (ad:=[]) (ps:=[]) ⟨Tryz.f20,by kernel_rfl,by kernel_rfl,by kernel_rfl⟩ (Ya (t:=some 18) (f:=20) hmix (ih _ _ h) (n:=3) (ad:=[]) (ps:=[]) (m:=bm 36 68719214499) (ls:=[]) (cs:=[(⟨⟨.loc 22,[]⟩,0,2⟩,some 1),(⟨⟨.loc 22,[]⟩,0,3⟩,some 7)]) (by kernel_rfl) trivial) (by kernel_rfl) trivial) (n:=3) (ad:=[]) (ps:=[]) (m:=bm 36 0) (ls:=[]) (cs:=[]) (by kernel_rfl) trivial
 |.h1 ..,h=>by rw[← aR h];exact Yz (nb:=0) (t:=none) (f:=0) hmix (n:=2000) (ad:=[]) (ps:=[]) (bx':=[]) (by kernel_rfl) trivial
 |.h2 _ _ _ _ _ _ _ _ a b c d e g,h=>by
  obtain⟨_,i,h⟩:=qh h;replace h:=qf h;rcases h with⟨_,rfl,h⟩|⟨_,rfl,h⟩
  · replace h:=qjf h;obtain⟨j,l,o,p,q,u,v,w,x,y,rfl,h⟩:=h;rw[← aR h];exact Yz (nb:=0) (t:=some 18) (f:=20) hmix (n:=2000) (ad:=[(some 24,.call (.panic (.iface 50 (.agg #[.int .i64 j,.int .i64 l]))) [[.imm o,ic p,.own 1 q,.own 7 u,ic v,ic w,sc x,ic y]] false)]) (ps:=[_,_]) (bx':=[[.nil,.nil,ic 0,ic 0,sc (strB []),ic 0],[ic j],[ic l]]) (by kernel_rfl) ⟨(qx0 i),(qzf (b0_2:=c) (b0_3:=d) (b0_4:=e) (b0_5:=g) (b1_0:=b) (b2_0:=a) (pv_i00:=j) (pv_i01:=l)),trivial⟩
  · replace h:=qw0 h;obtain⟨o,p,q,u,v,w,x,y,rfl,h⟩:=h;obtain⟨z,a1,h⟩:=qh h;rcases qa h with⟨b1,h⟩|⟨b1,h⟩
    · exact Ya (t:=some 18) (f:=20) hmix (ih _ _ h) (n:=7) (ad:=[(some 24,.call (.ret .undef) [[.imm o,ic p,.own 1 q,.own 7 u,ic v,ic w,sc x,ic y]] false),(some 29,.call (.ret (.c (ic z))) [] true),(some 30,.test true)]) (ps:=[_,_,_,_]) (m:=bm 36 68719214563) (ls:=[22]) (cs:=[(⟨⟨.loc 2,[]⟩,0,0⟩,none),(⟨⟨.loc 2,[]⟩,0,1⟩,none)]) (by kernel_rfl) ⟨(qx0 i),(ev12 a1),(rfl:true=true),b1,trivial⟩
    · exact Ya (t:=some 18) (f:=20) hmix (ih _ _ h) (n:=8) (ad:=[(some 24,.call (.ret .undef) [[.imm o,ic p,.own 1 q,.own 7 u,ic v,ic w,sc x,ic y]] false),(some 29,.call (.ret (.c (ic z))) [] true),(some 30,.test false)]) (ps:=[_,_,_,_]) (m:=bm 36 68719214563) (ls:=[22]) (cs:=[]) (by kernel_rfl) ⟨(qx0 i),(ev12 a1),(rfl:true=true),b1,trivial⟩
 |.h3 a b c d e g i j,h=>by rw[← aR h];exact Yz (nb:=0) (t:=some 18) (f:=20) hmix (n:=2000) (ad:=[]) (ps:=[_]) (bx':=[[.imm c,.imm d,ic e,ic g,sc i,ic j],[ic b],[ic a]]) (by kernel_rfl) ⟨(qyy (b0_0:=c) (b0_1:=d) (b0_2:=e) (b0_3:=g) (b0_4:=i) (b0_5:=j) (b1_0:=b) (b2_0:=a)),trivial⟩
 |.h4 a b c d e g i j,h=>by rw[← aR h];exact Yz (nb:=0) (t:=some 18) (f:=20) hmix (n:=2000) (ad:=[]) (ps:=[_]) (bx':=[[.imm c,.imm d,ic e,ic g,sc i,ic j],[ic b],[ic a]]) (by kernel_rfl) ⟨(qyy (b0_0:=c) (b0_1:=d) (b0_2:=e) (b0_3:=g) (b0_4:=i) (b0_5:=j) (b1_0:=b) (b2_0:=a)),trivial⟩
theorem ev8 {k:Nat}{a:By}{r:R8}(h:g8 k a=some r):E8 a r:=evr8 (ok8 _ _ _ h)
inductive S7 where
 |e
abbrev R7:=Bool
def res7:R7→ARes
 |r=>.ret (.c (bc r))
def bx7:R7→List (List Cell)
 |_=>[]
noncomputable def qm4 (k:Nat)(rec:S7→Option R7):S7→Option R7
 |.e=>
  (g8 k (strB [80,65,84,84,69,82,78,32,83,69,81,40,65,32,97,44,33,66,32,98,44,67,43,99,41,87,72,69,82,69,32,97,46,120,61,49,32,65,78,68,40,99,46,120,62,50,32,65,78,68,32,98,46,120,61,97,46,120,41,83,84,82,65,84,69,71,89,32,78,69,88,84,32,87,73,84,72,73,78,32,53,32,80,65,82,84,73,84,73,79,78,32,66,89,32,107])).bind fun a=>
  altC a (fun b=>
    tup8 b fun c d e f g i j l=>
    (qvw k c d e f g i).bind fun m=>
    tup2 m fun n o=>
    bif l==0 then
     bif j==0 then
      bif o==0 then
       bif (d.length:Int)==3 then
        some (n.toList==(strB [80,65,84,84,69,82,78,32,83,69,81,40,65,32,97,44,32,33,66,32,98,44,32,67,43,32,99,41,32,87,72,69,82,69,32,97,46,120,32,61,32,49,32,65,78,68,32,99,46,120,32,62,32,50,32,65,78,68,32,98,46,120,32,61,32,97,46,120,32,83,84,82,65,84,69,71,89,32,78,69,88,84,32,87,73,84,72,73,78,32,53,32,80,65,82,84,73,84,73,79,78,32,66,89,32,107]).toList)
       else
        some false
      else
       some false
     else
      some false
    else
     some false) (fun b=>
    tup6 b fun e f g i j l=>
    (qvw k [] [] e f g i).bind fun m=>
    tup2 m fun n o=>
    bif l==0 then
     bif j==0 then
      bif o==0 then
       some false
      else
       some false
     else
      some false
    else
     some false)
noncomputable def g7 (k:Nat):Option R7:=itS qm4 k (.e)
noncomputable def P7:S7→R7→Prop
 |.e,r=>Fin cx7 Tryz.f7 [.code qnU] (fr0 Tryz.f7 [] []) (res7 r) (bx7 r)
abbrev E7 (r:R7):Prop:=Ev Tryz.prog noHand 7 [] [] (res7 r) (bx7 r)
theorem evr7 {r:R7}(h:P7 (.e) r):E7 r:=evF h
theorem ok7:∀ k s r,itS qm4 k s=some r→P7 s r:=qF fun k rec ih s r h=>match s,h with
 |.e,h=>by
  obtain⟨_,a,h⟩:=qh h;replace h:=qf h;rcases h with⟨_,rfl,h⟩|⟨_,rfl,h⟩
  ·
   replace h:=t8 h;obtain⟨_,b,h⟩:=b2 h;rcases qa h with⟨c,h⟩|⟨c,h⟩
   ·
    rcases qa h with⟨d,h⟩|⟨d,h⟩
    ·
     rcases qa h with⟨e,h⟩|⟨e,h⟩
     · rcases qa h with⟨f,h⟩|⟨f,h⟩
       · cases h;exact mF 0 [cA 7 (ev8 a),cA 13 (quK b),tT 17 c,tT 20 d,tT 24 e,tT 30 f]
       · cases h;exact mF 0 [cA 7 (ev8 a),cA 13 (quK b),tT 17 c,tT 20 d,tT 24 e,tF 30 f]
     · cases h;exact mF 0 [cA 7 (ev8 a),cA 13 (quK b),tT 17 c,tT 20 d,tF 24 e]
    · cases h;exact mF 0 [cA 7 (ev8 a),cA 13 (quK b),tT 17 c,tF 20 d]
   · cases h;exact mF 0 [cA 7 (ev8 a),cA 13 (quK b),tF 17 c]
  ·
   replace h:=t6 h;obtain⟨_,b,h⟩:=b2 h;rcases qa h with⟨c,h⟩|⟨c,h⟩
   ·
    rcases qa h with⟨d,h⟩|⟨d,h⟩
    · rcases qa h with⟨e,h⟩|⟨e,h⟩
      · cases h;exact mF 0 [cA 7 (ev8 a),cA 13 (quK b),tT 17 c,tT 20 d,tT 24 e]
      · cases h;exact mF 0 [cA 7 (ev8 a),cA 13 (quK b),tT 17 c,tT 20 d,tF 24 e]
    · cases h;exact mF 0 [cA 7 (ev8 a),cA 13 (quK b),tT 17 c,tF 20 d]
   · cases h;exact mF 0 [cA 7 (ev8 a),cA 13 (quK b),tF 17 c]
theorem ev7 {k:Nat}{r:R7}(h:g7 k=some r):E7 r:=evr7 (ok7 _ _ _ h)
inductive S22 where
 |e (a:Int)(b:Rs)(c d:Int)(e f:By)(g i:Int)(j:Rs)(l m:Int)(n o:By)(p:Int)
 |h0 (a:Bool)(b:Int)(c:Rs)(d e:Int)(f g:By)(i j:Int)(l:Rs)(m n:Int)(o p:By)(q:Int)
 |h1 (a b c:Int)(d:Rs)(e f:Int)(g i:By)(j l:Int)(m:Rs)(n o:Int)(p q:By)(t:Int)
abbrev R22:=Bool
noncomputable def qb (k:Nat)(rec:S22→Option R22):S22→Option R22
 |.e a b c d e f g i j l m n o p=>
  bif a != i then
   rec (.h0 true i j l m n o p a b c d e f g)
  else
   bif c != l then
    rec (.h0 true i j l m n o p a b c d e f g)
   else
    bif d != m then
     rec (.h0 true i j l m n o p a b c d e f g)
    else
     bif !(e.toList==n.toList)then
      rec (.h0 true i j l m n o p a b c d e f g)
     else
      bif !(f.toList==o.toList)then
       rec (.h0 true i j l m n o p a b c d e f g)
      else
       rec (.h0 ((b.length:Int)!=(j.length:Int)) i j l m n o p a b c d e f g)
 |.h0 a b c d e f g i j l m n o p q=>
  bif a then
   some false
  else
   rec (.h1 (l.length:Int) 0 b c d e f g i j l m n o p q)
 |.h1 a b c d e f g i j l m n o p q t=>
  bif decide (b<a)then
   ixR m b fun u=>
   qE u fun v w x y z a1 b1=>
   ixR d b fun c1=>
   qE c1 fun d1 e1 f1 g1 i1 j1 l1=>
   (rec (.e v w x y z a1 b1 d1 e1 f1 g1 i1 j1 l1)).bind fun m1=>
   bif !m1 then
    some false
   else
    rec (.h1 a (IntKind.i64.wrap (b+1)) c d e f g i j l m n o p q t)
  else
   some true
noncomputable def g22 (k:Nat)(a:Int)(b:Rs)(c d:Int)(e f:By)(g i:Int)(j:Rs)(l m:Int)(n o:By)(p:Int):Option R22:=itS qb k (.e a b c d e f g i j l m n o p)
inductive S10 where
 |e (a b:Rs)(c d:Int)(e:By)(f:Int)(g i:Rs)(j l:Int)(m:By)(n:Int)
 |h0 (a:Bool)(b c:Rs)(d e:Int)(f:By)(g:Int)(i j:Rs)(l m:Int)(n:By)(o:Int)
 |h1 (a:Rs)(b c:Int)(d e:Rs)(f g:Int)(i:By)(j:Int)(l m:Rs)(n o:Int)(p:By)(q:Int)
 |h2 (a:Int)(b:Rs)(c d:Int)(e:Rs)(f g:Int)(i j:Rs)(l m:Int)(n:By)(o:Int)(p q:Rs)(t u:Int)(v:By)(w:Int)
 |h3 (a b:Int)(c d:Rs)(e f:Int)(g:By)(i:Int)(j l:Rs)(m n:Int)(o:By)(p:Int)
abbrev R10:=Bool
noncomputable def qaJ (k:Nat)(rec:S10→Option R10):S10→Option R10
 |.e a b c d e f g i j l m n=>
  bif c != j then
   rec (.h0 true g i j l m n a b c d e f)
  else
   bif d != l then
    rec (.h0 true g i j l m n a b c d e f)
   else
    bif !(e.toList==m.toList)then
     rec (.h0 true g i j l m n a b c d e f)
    else
     bif (a.length:Int)!=(g.length:Int)then
      rec (.h0 true g i j l m n a b c d e f)
     else
      rec (.h0 ((b.length:Int)!=(i.length:Int)) g i j l m n a b c d e f)
 |.h0 a b c d e f g i j l m n o=>
  bif a then
   some false
  else
   rec (.h1 i (i.length:Int) 0 b c d e f g i j l m n o)
 |.h1 a b c d e f g i j l m n o p q=>
  bif decide (c<b)then
   ixR a c fun t=>
   un_m t fun u=>
   ixR d c fun v=>
   un_m v fun w=>
   bif (u.length:Int)!=(w.length:Int)then
    some false
   else
    rec (.h2 c a b c u (u.length:Int) 0 d e f g i j l m n o p q)
  else
   rec (.h3 (m.length:Int) 0 d e f g i j l m n o p q)
 |.h2 a b c d e f g i j l m n o p q t u v w=>
  bif decide (g<f)then
   ixR e g fun x=>
   qu8 x fun y z a1 _=>
   ixR i a fun b1=>
   un_m b1 fun c1=>
   ixR c1 g fun d1=>
   qu8 d1 fun e1 f1 g1 _=>
   bif !(y==e1&&(z.toList==f1.toList&&(a1.toList==g1.toList&&true)))then
    some false
   else
    rec (.h2 a b c d e f (IntKind.i64.wrap (g+1)) i j l m n o p q t u v w)
  else
   rec (.h1 b c (IntKind.i64.wrap (d+1)) i j l m n o p q t u v w)
 |.h3 a b c d e f g i j l m n o p=>
  bif decide (b<a)then
   ixR l b fun q=>
   qE q fun t u v w x y z=>
   ixR d b fun a1=>
   qE a1 fun b1 c1 d1 e1 f1 g1 i1=>
   (g22 k t u v w x y z b1 c1 d1 e1 f1 g1 i1).bind fun j1=>
   bif !j1 then
    some false
   else
    rec (.h3 a (IntKind.i64.wrap (b+1)) c d e f g i j l m n o p)
  else
   some true
noncomputable def g10 (k:Nat)(a b:Rs)(c d:Int)(e:By)(f:Int)(g i:Rs)(j l:Int)(m:By)(n:Int):Option R10:=itS qaJ k (.e a b c d e f g i j l m n)
inductive S9 where
 |e (a:Int)(b:Rs)(c d:Int)(e f:By)(g i:Int)(j:Rs)(l m:Int)(n o:By)(p:Int)(q:Bool)
 |h0 (a b:Bool)(c:Int)(d:Rs)(e f:Int)(g i:By)(j l:Int)(m:Rs)(n o:Int)(p q:By)(t:Int)
 |h1 (a:Bool)(b c d:Int)(e:Rs)(f g:Int)(i j:By)(l m:Int)(n:Rs)(o p:Int)(q t:By)(u:Int)
abbrev R9:=Bool
def res9:R9→ARes
 |r=>.ret (.c (bc r))
def bx9:R9→List (List Cell)
 |_=>[]
noncomputable def qn6 (k:Nat)(rec:S9→Option R9):S9→Option R9
 |.e a b c d e f g i j l m n o p q=>
  bif a != i then
   rec (.h0 q true i j l m n o p a b c d e f g)
  else
   bif c != l then
    rec (.h0 q true i j l m n o p a b c d e f g)
   else
    bif d != m then
     rec (.h0 q true i j l m n o p a b c d e f g)
    else
     bif !(e.toList==n.toList)then
      rec (.h0 q true i j l m n o p a b c d e f g)
     else
      bif !(f.toList==o.toList)then
       rec (.h0 q true i j l m n o p a b c d e f g)
      else
       bif (b.length:Int)!=(j.length:Int)then
        rec (.h0 q true i j l m n o p a b c d e f g)
       else
        bif q then
         rec (.h0 q (g != p) i j l m n o p a b c d e f g)
        else
         rec (.h0 q false i j l m n o p a b c d e f g)
 |.h0 a b c d e f g i j l m n o p q t=>
  bif b then
   some false
  else
   rec (.h1 a (m.length:Int) 0 c d e f g i j l m n o p q t)
 |.h1 a b c d e f g i j l m n o p q t u=>
  bif decide (c<b)then
   ixR n c fun v=>
   qE v fun w x y z a1 b1 c1=>
   ixR e c fun d1=>
   qE d1 fun e1 f1 g1 i1 j1 l1 m1=>
   (rec (.e w x y z a1 b1 c1 e1 f1 g1 i1 j1 l1 m1 a)).bind fun n1=>
   bif !n1 then
    some false
   else
    rec (.h1 a b (IntKind.i64.wrap (c+1)) d e f g i j l m n o p q t u)
  else
   some true
noncomputable def g9 (k:Nat)(a:Int)(b:Rs)(c d:Int)(e f:By)(g i:Int)(j:Rs)(l m:Int)(n o:By)(p:Int)(q:Bool):Option R9:=itS qn6 k (.e a b c d e f g i j l m n o p q)
noncomputable def P9:S9→R9→Prop
 |.e a b c d e f g i j l m n o p q,r=>Fin cx9 Tryz.f9 [.code qmn] (fr0 Tryz.f9 [.ag [ic a,.imm b,ic c,ic d,sc e,sc f,ic g],.ag [ic i,.imm j,ic l,ic m,sc n,sc o,ic p],.c (bc q)] []) (res9 r) (bx9 r)
 |.h0 a b c d e f g i j l m n o p q t,r=>Fin cx9 Tryz.f9 (kAt qmn [1,0,1,2] []) ⟨[.deadv,.deadv,.c (bc a),pL 3,pL 4]++rep 54 .deadv++[.c (bc b)]++rep 20 .deadv,[(.loc 4,[ic c,.imm d,ic e,ic f,sc g,sc i,ic j]),(.loc 3,[ic l,.imm m,ic n,ic o,sc p,sc q,ic t])]⟩ (res9 r) (bx9 r)
 |.h1 a b c d e f g i j l m n o p q t u,r=>Fin cx9 Tryz.f9 (kAt qmn [1,1,0,1,0,4] []) ⟨[.deadv,.deadv,.c (bc a),pL 3,pL 4]++rep 57 .deadv++[.c (ic b),.c (ic c)]++rep 16 .deadv,[(.loc 4,[ic d,.imm e,ic f,ic g,sc i,sc j,ic l]),(.loc 3,[ic m,.imm n,ic o,ic p,sc q,sc t,ic u])]⟩ (res9 r) (bx9 r)
abbrev E9 (a:Int)(b:Rs)(c d:Int)(e f:By)(g i:Int)(j:Rs)(l m:Int)(n o:By)(p:Int)(q:Bool)(r:R9):Prop:=Ev Tryz.prog noHand 9 [.ag [ic a,.imm b,ic c,ic d,sc e,sc f,ic g],.ag [ic i,.imm j,ic l,ic m,sc n,sc o,ic p],.c (bc q)] [] (res9 r) (bx9 r)
theorem evr9 {a:Int}{b:Rs}{c d:Int}{e f:By}{g i:Int}{j:Rs}{l m:Int}{n o:By}{p:Int}{q:Bool}{r:R9}(h:P9 (.e a b c d e f g i j l m n o p q) r):E9 a b c d e f g i j l m n o p q r:=evF h
theorem ok9:∀ k s r,itS qn6 k s=some r→P9 s r:=qF fun k rec ih s r h=>match s,h with
 |.e ..,h=>by
  rcases qa h with⟨a,h⟩|⟨a,h⟩
  · exact mA 0 (ih _ _ h) 5 [tT 12 a] 80 1208925243153876871282659
  ·
   rcases qa h with⟨b,h⟩|⟨b,h⟩
   · exact mA 0 (ih _ _ h) 5 [tF 12 a,tT 18 b] 80 1208925243153876871282659
   ·
    rcases qa h with⟨c,h⟩|⟨c,h⟩
    · exact mA 0 (ih _ _ h) 5 [tF 12 a,tF 18 b,tT 25 c] 80 1208925243153876871282659
    ·
     rcases qa h with⟨d,h⟩|⟨d,h⟩
     · exact mA 0 (ih _ _ h) 5 [tF 12 a,tF 18 b,tF 25 c,tT 32 d] 80 1208925243153876871282659
     ·
      rcases qa h with⟨e,h⟩|⟨e,h⟩
      · exact mA 0 (ih _ _ h) 5 [tF 12 a,tF 18 b,tF 25 c,tF 32 d,tT 39 e] 80 1208925243153876871282659
      · rcases qa h with⟨f,h⟩|⟨f,h⟩
        · exact mA 0 (ih _ _ h) 5 [tF 12 a,tF 18 b,tF 25 c,tF 32 d,tF 39 e,tT 48 f] 80 1208925243153876871282659
        · replace h:=qa h;rcases h with⟨rfl,h⟩|⟨rfl,h⟩
          · exact mA 0 (ih _ _ h) 5 [tF 12 a,tF 18 b,tF 25 c,tF 32 d,tF 39 e,tF 48 f] 80 1208925243153876871282659
          · exact mA 0 (ih _ _ h) 5 [tF 12 a,tF 18 b,tF 25 c,tF 32 d,tF 39 e,tF 48 f] 80 1208925243153876871282659
 |.h0 ..,h=>by
  replace h:=qa h;rcases h with⟨rfl,h⟩|⟨rfl,h⟩
  · cases h;exact mF 0 []
  · exact mA 0 (ih _ _ h) 7 [] 80 1208911984556573892542435
 |.h1 ..,h=>by
  rcases qa h with⟨a,h⟩|⟨a,h⟩
  · obtain⟨_,b,h⟩:=YJ h;replace h:=zB h;obtain⟨_,_,_,_,_,_,_,rfl,h⟩:=h;obtain⟨_,c,h⟩:=YJ h;replace h:=zB h;obtain⟨_,_,_,_,_,_,_,rfl,h⟩:=h;obtain⟨_,d,h⟩:=qh h;rcases qa h with⟨e,h⟩|⟨e,h⟩
    · cases h;exact mF 0 [tT 64 a,rA 69 b,rA 74 c,cA 77 (evr9 (ih _ _ d)),tT 78 e]
    · exact mA 0 (ih _ _ h) 16 [tT 64 a,rA 69 b,rA 74 c,cA 77 (evr9 (ih _ _ d)),tF 78 e] 80 1208911984556573892542435
  · cases h;exact mF 0 [tF 64 a]
theorem ev9 {k:Nat}{a:Int}{b:Rs}{c d:Int}{e f:By}{g i:Int}{j:Rs}{l m:Int}{n o:By}{p:Int}{q:Bool}{r:R9}(h:g9 k a b c d e f g i j l m n o p q=some r):E9 a b c d e f g i j l m n o p q r:=evr9 (ok9 _ _ _ h)
inductive S11 where
 |e (a b:Rs)(c d:Int)(e:By)(f:Int)(g i:Rs)(j l:Int)(m:By)(n:Int)(o:Bool)
 |h0 (a b:Bool)(c d:Rs)(e f:Int)(g:By)(i:Int)(j l:Rs)(m n:Int)(o:By)(p:Int)
 |h1 (a:Bool)(b c:Int)(d e:Rs)(f g:Int)(i:By)(j:Int)(l m:Rs)(n o:Int)(p:By)(q:Int)
 |h2 (a:Bool)(b c d:Int)(e:Rs)(f g:Int)(i j:Rs)(l m:Int)(n:By)(o:Int)(p q:Rs)(t u:Int)(v:By)(w:Int)
 |h3 (a:Bool)(b c:Int)(d e:Rs)(f g:Int)(i:By)(j:Int)(l m:Rs)(n o:Int)(p:By)(q:Int)
 |h4 (a:Bool)(b c d:Int)(e:Rs)(f g:Int)(i:Bool)(j l:Rs)(m n:Int)(o:By)(p:Int)(q t:Rs)(u v:Int)(w:By)(x:Int)
abbrev R11:=Bool
noncomputable def ql7 (k:Nat)(rec:S11→Option R11):S11→Option R11
 |.e a b c d e f g i j l m n o=>
  bif c != j then
   rec (.h0 o true g i j l m n a b c d e f)
  else
   bif d != l then
    rec (.h0 o true g i j l m n a b c d e f)
   else
    bif !(e.toList==m.toList)then
     rec (.h0 o true g i j l m n a b c d e f)
    else
     bif (a.length:Int)!=(g.length:Int)then
      rec (.h0 o true g i j l m n a b c d e f)
     else
      bif (b.length:Int)!=(i.length:Int)then
       rec (.h0 o true g i j l m n a b c d e f)
      else
       bif o then
        rec (.h0 o (f != n) g i j l m n a b c d e f)
       else
        rec (.h0 o false g i j l m n a b c d e f)
 |.h0 a b c d e f g i j l m n o p=>
  bif b then
   some false
  else
   rec (.h1 a (j.length:Int) 0 c d e f g i j l m n o p)
 |.h1 a b c d e f g i j l m n o p q=>
  bif decide (c<b)then
   ixR l c fun t=>
   un_m t fun u=>
   ixR d c fun v=>
   un_m v fun w=>
   bif (u.length:Int)!=(w.length:Int)then
    some false
   else
    rec (.h2 a c b c u (u.length:Int) 0 d e f g i j l m n o p q)
  else
   rec (.h3 a (m.length:Int) 0 d e f g i j l m n o p q)
 |.h2 a b c d e f g i j l m n o p q t u v w=>
  bif decide (g<f)then
   ixR e g fun x=>
   qu8 x fun y z a1 b1=>
   ixR i b fun c1=>
   un_m c1 fun d1=>
   ixR d1 g fun e1=>
   qu8 e1 fun f1 g1 i1 j1=>
   bif y != f1 then
    rec (.h4 a b c d e f g true i j l m n o p q t u v w)
   else
    bif !(z.toList==g1.toList)then
     rec (.h4 a b c d e f g true i j l m n o p q t u v w)
    else
     bif !(a1.toList==i1.toList)then
      rec (.h4 a b c d e f g true i j l m n o p q t u v w)
     else
      bif a then
       rec (.h4 a b c d e f g (b1 != j1) i j l m n o p q t u v w)
      else
       rec (.h4 a b c d e f g false i j l m n o p q t u v w)
  else
   rec (.h1 a c (IntKind.i64.wrap (d+1)) i j l m n o p q t u v w)
 |.h3 a b c d e f g i j l m n o p q=>
  bif decide (c<b)then
   ixR m c fun t=>
   qE t fun u v w x y z a1=>
   ixR e c fun b1=>
   qE b1 fun c1 d1 e1 f1 g1 i1 j1=>
   (g9 k u v w x y z a1 c1 d1 e1 f1 g1 i1 j1 a).bind fun l1=>
   bif !l1 then
    some false
   else
    rec (.h3 a b (IntKind.i64.wrap (c+1)) d e f g i j l m n o p q)
  else
   some true
 |.h4 a b c d e f g i j l m n o p q t u v w x=>
  bif i then
   some false
  else
   rec (.h2 a b c d e f (IntKind.i64.wrap (g+1)) j l m n o p q t u v w x)
noncomputable def g11 (k:Nat)(a b:Rs)(c d:Int)(e:By)(f:Int)(g i:Rs)(j l:Int)(m:By)(n:Int)(o:Bool):Option R11:=itS ql7 k (.e a b c d e f g i j l m n o)
inductive S23 where
 |e (a:Int)(b:Rs)(c d:Int)(e f:By)(g:Int)
 |h0 (a b c d:Int)(e:Rs)(f g:Int)(i j:By)(l:Int)
abbrev R23:=Int
noncomputable def qkj (k:Nat)(rec:S23→Option R23):S23→Option R23
 |.e a b c d e f g=>rec (.h0 1 (b.length:Int) 0 a b c d e f g)
 |.h0 a b c d e f g i j l=>
  bif decide (c<b)then
   ixR e c fun m=>
   qE m fun n o p q t u v=>
   (rec (.e n o p q t u v)).bind fun w=>
   rec (.h0 (IntKind.i64.wrap (a+w)) b (IntKind.i64.wrap (c+1)) d e f g i j l)
  else
   some a
noncomputable def g23 (k:Nat)(a:Int)(b:Rs)(c d:Int)(e f:By)(g:Int):Option R23:=itS qkj k (.e a b c d e f g)
inductive S13 where
 |e (a b:Rs)(c d:Int)(e:By)(f:Int)
 |h0 (a b c:Int)(d e:Rs)(f g:Int)(i:By)(j:Int)
 |h1 (a b c:Int)(d e:Rs)(f g:Int)(i:By)(j:Int)
abbrev R13:=Int
noncomputable def zx (k:Nat)(rec:S13→Option R13):S13→Option R13
 |.e a b c d e f=>rec (.h0 0 (b.length:Int) 0 a b c d e f)
 |.h0 a b c d e f g i j=>
  bif decide (c<b)then
   ixR e c fun l=>
   qE l fun m n o p q t u=>
   (g23 k m n o p q t u).bind fun v=>
   bif decide (c>0)then
    rec (.h1 (IntKind.i64.wrap ((IntKind.i64.wrap (a+v))+1)) b c d e f g i j)
   else
    rec (.h1 (IntKind.i64.wrap (a+v)) b c d e f g i j)
  else
   some a
 |.h1 a b c d e f g i j=>rec (.h0 a b (IntKind.i64.wrap (c+1)) d e f g i j)
noncomputable def g13 (k:Nat)(a b:Rs)(c d:Int)(e:By)(f:Int):Option R13:=itS zx k (.e a b c d e f)
inductive S24 where
 |e (a:Int)(b:Rs)(c d:Int)(e f:By)(g:Int)
 |h0 (a:Rs)(b c d e f:Int)(g i:By)(j l:Int)(m:Rs)(n o:Int)(p q:By)(t:Int)
abbrev R24:=Int×Rs×Int×Int×By×By×Int
noncomputable def qj6 (k:Nat)(rec:S24→Option R24):S24→Option R24
 |.e a b c d e f g=>rec (.h0 [] (b.length:Int) 0 0 0 0 (strB []) (strB []) 0 a b c d e f g)
 |.h0 a b c d e f g i j l m n o p q t=>
  bif decide (c<b)then
   ixR m c fun u=>
   qE u fun v w x y z a1 b1=>
   (rec (.e v w x y z a1 b1)).bind fun c1=>
   tup7 c1 fun d1 e1 f1 g1 i1 j1 l1=>
   gd (apOk 88 7 a [[ic d1,.imm e1,ic f1,ic g1,sc i1,sc j1,ic l1]]) <|
   rec (.h0 (a++[[ic d1,.imm e1,ic f1,ic g1,sc i1,sc j1,ic l1]]) b (IntKind.i64.wrap (c+1)) d e f g i j l m n o p q t)
  else
   some (l,qG a,n,o,p,q,t)
noncomputable def g24 (k:Nat)(a:Int)(b:Rs)(c d:Int)(e f:By)(g:Int):Option R24:=itS qj6 k (.e a b c d e f g)
inductive S14 where
 |e (a b:Rs)(c d:Int)(e:By)(f:Int)
 |h0 (a b:Rs)(c d e f:Int)(g:By)(i:Int)(j l:Rs)(m n:Int)(o:By)(p:Int)
 |h1 (a b:Rs)(c d e f:Int)(g:By)(i:Int)(j l:Rs)(m n:Int)(o:By)(p:Int)
abbrev R14:=Rs×Rs×Int×Int×By×Int
noncomputable def qkA (k:Nat)(rec:S14→Option R14):S14→Option R14
 |.e a b c d e f=>rec (.h0 [] a (a.length:Int) 0 0 0 (strB []) 0 a b c d e f)
 |.h0 a b c d e f g i j l m n o p=>
  bif decide (d<c)then
   ixR b d fun q=>
   un_m q fun t=>
   gd (apOk 48 4 [] t) <|
   gd (apOk 24 1 a [[.own 4 (([]:Rs)++t)]]) <|
   rec (.h0 (a++[[.own 4 (([]:Rs)++t)]]) b c (IntKind.i64.wrap (d+1)) e f g i j l m n o p)
  else
   rec (.h1 a [] (l.length:Int) 0 e f g i j l m n o p)
 |.h1 a b c d e f g i j l m n o p=>
  bif decide (d<c)then
   ixR l d fun q=>
   qE q fun t u v w x y z=>
   (g24 k t u v w x y z).bind fun a1=>
   tup7 a1 fun b1 c1 d1 e1 f1 g1 i1=>
   gd (apOk 88 7 b [[ic b1,.imm c1,ic d1,ic e1,sc f1,sc g1,ic i1]]) <|
   rec (.h1 a (b++[[ic b1,.imm c1,ic d1,ic e1,sc f1,sc g1,ic i1]]) c (IntKind.i64.wrap (d+1)) e f g i j l m n o p)
  else
   some (qG a,qG b,m,n,o,p)
noncomputable def g14 (k:Nat)(a b:Rs)(c d:Int)(e:By)(f:Int):Option R14:=itS qkA k (.e a b c d e f)
inductive S4 where
 |e (a b:Rs)(c d:Int)(e:By)(f:Int)(g i:Rs)(j l:Int)(m:By)(n:Int)
abbrev R4:=Bool
noncomputable def qnB (k:Nat)(rec:S4→Option R4):S4→Option R4
 |.e a b c d e f g i j l m n=>
  (g7 k).bind fun o=>
  bif o then
   (g10 k a b c d e f g i j l m n).bind fun p=>
   (g11 k a b c d e f g i j l m n false).bind fun q=>
   bif p==q then
    (g12 k a b c d e f).bind fun t=>
    (g13 k a b c d e f).bind fun u=>
    bif t==u then
     (g14 k a b c d e f).bind fun v=>
     tup6 v fun w x y z a1 b1=>
     (g10 k a b c d e f w x y z a1 b1).bind fun c1=>
     some c1
    else
     some false
   else
    some false
  else
   some false
noncomputable def g4 (k:Nat)(a b:Rs)(c d:Int)(e:By)(f:Int)(g i:Rs)(j l:Int)(m:By)(n:Int):Option R4:=itS qnB k (.e a b c d e f g i j l m n)
end Ab
end Go.Proofs.YtpdhhkfllkgahaaGreatDoor
