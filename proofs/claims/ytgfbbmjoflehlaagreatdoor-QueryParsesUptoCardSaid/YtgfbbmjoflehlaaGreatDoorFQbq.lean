/-
  Functions' ways, printed by a program: what each computes, and that this is what the interpreter computes.
-/
import Derived.Test.YtgfbbmjoflehlaaGreatDoorPrq
import Derived.KernelRfl
set_option linter.all false
set_option maxRecDepth 10000
set_option maxHeartbeats 8000000
namespace Go.Proofs.YtgfbbmjoflehlaaGreatDoor
namespace Ab
variable [vo]
inductive S68 where
 |e (a:Int)
inductive S69 where
 |e (a:Int)
inductive S71 where
 |e (a:Int)
inductive S97 where
 |e (a:Int)(b:By)(c:Int)
 |h0 (a b:Int)(c:By)(d:Int)
 |h1 (a b:Int)(c:Bool)(d:By)(e:Int)
inductive S85 where
 |e (a:By)
 |h0 (a:Bool)
inductive S70 where
 |e (a:By)(b:Int)
inductive S98 where
 |e (a:Int)(b:By)(c:Int)
 |h0 (a b:Int)(c:By)(d:Int)
 |h1 (a b:Int)(c:Bool)(d:By)(e:Int)
inductive S72 where
 |e (a:By)(b:Int)
 |h0 (a:Int)(b c:By)(d:Bool)(e:Int)(f:By)(g i j:Int)(l:By)(m:Int)
 |h1 (a:Int)(b c:By)(d:Int)(e:By)(f g i:Int)(j:By)(l:Int)
 |h2 (a:Int)(b c:By)(d:Bool)(e:Int)(f:By)(g i j:Int)(l:By)(m:Int)
inductive S73 where
 |e (a:By)(b:Int)
 |h0 (a:Int)(b:By)(c:Int)(d:Bool)(e:Int)(f:By)(g i j:Int)(l:By)(m:Int)
inductive S74 where
 |e (a:By)(b:Int)
 |h0 (a b c:Int)(d:Bool)(e:Int)(f:By)(g i j:Int)(l:By)(m:Int)
 |h1 (a b:Int)(c:Bool)(d:Int)(e:By)(f g i:Int)(j:By)(l:Int)
 |h2 (a b:Int)(c:Bool)(d:Int)(e:By)(f g i:Int)(j:By)(l:Int)
 |h3 (a b c:Int)(d:By)(e f g:Int)(i:By)(j:Int)
inductive S39 where
 |e (a:By)(b:Int)
 |h0 (a:Int)(b:By)(c d e:Int)(f:By)(g:Int)
 |h1 (a:Bool)(b:Int)(c:By)(d e f:Int)(g:By)(i:Int)
inductive S12 where
 |e (a:By)
 |h0 (a b:Int)(c:Rs)
 |h1 (a:By)(b c d:Int)(e:Rs)
 |h2 (a b:Int)(c:Rs)
inductive S46b where
 |e (a:Rs)(b:Int)(c d:Rs)(e f:Int)(g:By)(i:Int)
inductive S42b where
 |e (a:By)(b:Rs)(c:Int)(d e:Rs)(f g:Int)(i:By)(j:Int)
inductive S47b where
 |e (a:Int)(b:Rs)(c:Int)(d e:Rs)(f g:Int)(i:By)(j:Int)
inductive S78b where
 |e (a:Rs)(b:Int)(c d:Rs)(e f:Int)(g:By)(i:Int)
inductive S75b where
 |e (a:Int)(b:Rs)(c:Int)(d e:Rs)(f g:Int)(i:By)(j:Int)
 |h0 (a:Bool)(b:Int)(c:By)(d e f g:Int)(i j:By)(l:Int)(m:Rs)(n:Int)(o p:Rs)(q t:Int)(u:By)(v:Int)
 |h1 (a:Int)(b c:By)(d e:Int)(f g:By)(i:Int)(j:Rs)(l:Int)(m n:Rs)(o p:Int)(q:By)(t:Int)
 |h2 (a:Bool)(b:Int)(c d:By)(e f:Int)(g i:By)(j:Int)(l:Rs)(m:Int)(n o:Rs)(p q:Int)(t:By)(u:Int)
 |h3 (a:Int)(b c:By)(d e:Int)(f g:By)(i:Int)(j:Rs)(l:Int)(m n:Rs)(o p:Int)(q:By)(t:Int)
inductive S40b where
 |e (a:By)(b:Rs)(c:Int)(d e:Rs)(f g:Int)(i:By)(j:Int)
inductive S41b where
 |e (a:Rs)(b:Int)(c d:Rs)(e f:Int)(g:By)(i:Int)
 |h0 (a:Bool)(b:Rs)(c:Int)(d e:Rs)(f g:Int)(i:By)(j:Int)
 |h1 (a b:Rs)(c:Int)(d e:Rs)(f g:Int)(i:By)(j:Int)
inductive S122 where
 |e (a:Rs)(b c:Int)
inductive S101 where
 |e (a:By)(b:Rs)(c d:Int)
inductive S158 where
 |e (a:Rs)(b c:Int)
inductive S154 where
 |e (a:By)(b:Rs)(c d:Int)
inductive S153 where
 |e (a:Rs)(b c:Int)
inductive S136 where
 |e (a:Rs)(b c:Int)
inductive S159 where
 |e (a:Int)(b:By)(c d e:Int)(f:Rs)(g i:Int)
 |h0 (a b c d e f g:By)(i j l m:Int)(n o:By)(p q:Int)(t:By)(u v w:Int)(x:Rs)(y z:Int)
 |h1 (a b c:Int)(d e:By)(f g i j:Int)(l m:By)(n:Int)(o:Rs)(p q:Int)
inductive S144 where
 |e (a:By)(b:Int)(c:Rs)(d e:Int)
 |h0 (a:Int)(b:Rs)(c d e:Int)(f:By)(g i j:Int)(l:Rs)(m n:Int)
 |h1 (a:Rs)(b c:Int)
attribute [local irreducible] cond gd ixR sxI aixS Option.bind
noncomputable section
abbrev R68:=Bool
def qq4 (k:Nat)(rec:S68->Option R68):S68->Option R68
 |.e a=>
  bif tg 4 (a==32)then
   some true
  else
   bif tg 7 (a==9)then
    some true
   else
    bif tg 11 (a==10)then
     some true
    else
     some (a==13)
def g68 (k:Nat)(a:Int):Option R68:=itS qq4 k (.e a)
def P68:S68->R68->Prop
 |.e a=>Fe Y68 qzQ nB [cu a] []
theorem ok68:∀ k s r,itS qq4 k s=some r->P68 s r:=okU trivial
instance {k:Nat} {a:Int}:EvI (g68 k a) 68 [cu a] [] qzQ nB:=eI ok68
abbrev R69:=Bool
def qpN (k:Nat)(rec:S69->Option R69):S69->Option R69
 |.e a=>
  bif tg 4 (decide (a>=97))then
   bif tg 7 (decide (a<=122))then
    some true
   else
    bif tg 11 (decide (a>=65))then
     some (decide (a<=90))
    else
     some false
  else
   bif tg 11 (decide (a>=65))then
    some (decide (a<=90))
   else
    some false
def g69 (k:Nat)(a:Int):Option R69:=itS qpN k (.e a)
def P69:S69->R69->Prop
 |.e a=>Fe Y69 qzQ nB [cu a] []
theorem ok69:∀ k s r,itS qpN k s=some r->P69 s r:=okU trivial
instance {k:Nat} {a:Int}:EvI (g69 k a) 69 [cu a] [] qzQ nB:=eI ok69
abbrev R71:=Bool
def qp1 (k:Nat)(rec:S71->Option R71):S71->Option R71
 |.e a=>
  bif tg 4 (decide (a>=48))then
   some (decide (a<=57))
  else
   some false
def g71 (k:Nat)(a:Int):Option R71:=itS qp1 k (.e a)
def P71:S71->R71->Prop
 |.e a=>Fe Y71 qzQ nB [cu a] []
theorem ok71:∀ k s r,itS qp1 k s=some r->P71 s r:=okU trivial
instance {k:Nat} {a:Int}:EvI (g71 k a) 71 [cu a] [] qzQ nB:=eI ok71
abbrev R97:=By
def bx97 (b0_0:ByteArray)(b0_1:Int):R97->List (List Cell)
 |_=>[[sc b0_0,ic b0_1]]
def qvR (k:Nat)(rec:S97->Option R97):S97->Option R97
 |.e a b c=>rec (tg 7 (.h0 a a b c))
 |.h0 a b c d=>
  bif tg 13 (decide (b<(c.size:Int)))then
   sxI c (tg 20 b) fun e=>
   (tg 21 (g69 k e)).bind fun f=>
   bif f then
    rec (tg 4 (.h1 a b true c d))
   else
    ag 1 28 <|
    (tg 29 (g71 k e)).bind fun g=>
    bif g then
     rec (tg 4 (.h1 a b true c d))
    else
     ag 3 37 <|
     rec (tg 4 (.h1 a b (e==95) c d))
  else
   rec (tg 4 (.h1 a b false c d))
 |.h1 a b c d e=>
  bif c then
   rec (tg 5 (.h0 a (IntKind.i64.wrap (b+1)) d e))
  else
   gd (tg 49 (tg 0 (decide (0<=a/\a<=b/\b<=(d.size:Int))))) <|
   some (d.extract (Int.toNat a) (Int.toNat b))
def g97 (k:Nat)(a:Int)(b:By)(c:Int):Option R97:=itS qvR k (.e a b c)
def P97:S97->R97->Prop
 |.e a b c=>Fe Y97 qyF (bx97 b c) [pP 0,cic a] [[sc b,ic c]]
 |.h0 a b c d=>Fk Y97 qyF (bx97 c d) [1,1,0,0,4] ([pP 0,cic a]++rd 3++[cic b]++rd 44) [(.par 0,[sc c,ic d])]
 |.h1 a b c d e=>Fk Y97 qyF (bx97 d e) [1,1,0,0,0,0,1,2] ([pP 0,cic a]++rd 3++[cic b]++rd 34++[cbc c]++rd 9) [(.par 0,[sc d,ic e])]
theorem ok97:∀ k s r,itS qvR k s=some r->P97 s r:=okU trivial
instance {k:Nat} {a:Int} {b:By} {c:Int}:EvI (g97 k a b c) 97 [pP 0,cic a] [[sc b,ic c]] qyF (bx97 b c):=eI ok97
abbrev R85:=Bool
def Zr (k:Nat)(rec:S85->Option R85):S85->Option R85
 |.e a=>
  bif tg 5 (a.toList==(strB [80,65,84,84,69,82,78]).toList)then
   rec (tg 11 (.h0 true))
  else
   bif tg 6 (a.toList==(strB [83,69,81]).toList)then
    rec (tg 14 (.h0 true))
   else
    bif tg 7 (a.toList==(strB [87,72,69,82,69]).toList)then
     rec (tg 17 (.h0 true))
    else
     bif tg 8 (a.toList==(strB [83,84,82,65,84,69,71,89]).toList)then
      rec (tg 20 (.h0 true))
     else
      bif tg 9 (a.toList==(strB [87,73,84,72,73,78]).toList)then
       rec (tg 23 (.h0 true))
      else
       bif tg 10 (a.toList==(strB [80,65,82,84,73,84,73,79,78]).toList)then
        rec (tg 26 (.h0 true))
       else
        bif tg 11 (a.toList==(strB [66,89]).toList)then
         rec (tg 29 (.h0 true))
        else
         bif tg 12 (a.toList==(strB [83,84,82,73,67,84]).toList)then
          rec (tg 32 (.h0 true))
         else
          bif tg 13 (a.toList==(strB [78,69,88,84]).toList)then
           rec (tg 35 (.h0 true))
          else
           bif tg 14 (a.toList==(strB [65,78,89]).toList)then
            rec (tg 38 (.h0 true))
           else
            bif tg 15 (a.toList==(strB [65,78,68]).toList)then
             rec (tg 41 (.h0 true))
            else
             bif tg 16 (a.toList==(strB [79,82]).toList)then
              rec (tg 44 (.h0 true))
             else
              bif tg 17 (a.toList==(strB [78,79,84]).toList)then
               rec (tg 47 (.h0 true))
              else
               bif tg 18 (a.toList==(strB [84,82,85,69]).toList)then
                rec (tg 50 (.h0 true))
               else
                bif tg 19 (a.toList==(strB [70,65,76,83,69]).toList)then
                 rec (tg 53 (.h0 true))
                else
                 bif tg 20 (a.toList==(strB [84,73,77,69]).toList)then
                  rec (tg 56 (.h0 true))
                 else
                  bif tg 21 (a.toList==(strB [82,69,65,76]).toList)then
                   rec (tg 59 (.h0 true))
                  else
                   bif tg 22 (a.toList==(strB [73,83,78,65,78]).toList)then
                    rec (tg 62 (.h0 true))
                   else
                    bif tg 23 (a.toList==(strB [67,79,85,78,84]).toList)then
                     rec (tg 65 (.h0 true))
                    else
                     bif tg 24 (a.toList==(strB [70,73,82,83,84]).toList)then
                      rec (tg 68 (.h0 true))
                     else
                      bif tg 25 (a.toList==(strB [76,65,83,84]).toList)then
                       rec (tg 71 (.h0 true))
                      else
                       bif tg 26 (a.toList==(strB [83,85,77]).toList)then
                        rec (tg 74 (.h0 true))
                       else
                        bif tg 27 (a.toList==(strB [77,73,78]).toList)then
                         rec (tg 77 (.h0 true))
                        else
                         bif tg 28 (a.toList==(strB [77,65,88]).toList)then
                          rec (tg 80 (.h0 true))
                         else
                          rec (tg 80 (.h0 (a.toList==(strB [77,69,65,78]).toList)))
 |.h0 a=>
  bif a then
   some true
  else
   some false
def g85 (k:Nat)(a:By):Option R85:=itS Zr k (.e a)
def P85:S85->R85->Prop
 |.e a=>Fe Y85 qzQ nB [csc a] []
 |.h0 a=>Fk Y85 qzQ nB [1,0,1,0,1,2] (rd 4++[cbc a]++rd 25) []
theorem ok85:∀ k s r,itS Zr k s=some r->P85 s r:=okU trivial
instance {k:Nat} {a:By}:EvI (g85 k a) 85 [csc a] [] qzQ nB:=eI ok85
abbrev R70:=(Int×By×Int×Int×Int×Int)⊕(Int×Int)
def qlU:R70->ARes
 |(.inl (a,b,c,d,e,_))=>.ret (.ag [ic a,sc b,ic c,ic d,ic e])
 |(.inr (a,_))=>.panic (.iface 89 (.agg #[.int .i64 a]))
def bx70 (b0_0:ByteArray):R70->List (List Cell)
 |(.inl (_,_,_,_,_,a))=>[[sc b0_0,ic a]]
 |(.inr (_,a))=>[[sc b0_0,ic a]]
def qoO (k:Nat)(rec:S70->Option R70):S70->Option R70
 |.e a b=>
  (tg 10 (g97 k b a b)).bind fun c=>
  ag 0 10 <|
  (tg 26 (g85 k c)).bind fun d=>
  bif d then
   ins 3 ⟨(some 9999,.alt 5 9),[_],⟨(rfl:(⟨[pP 0,.undef,pL 2,csc c,cic b,pP 0,pP 0,pP 0,.c (.ptr ⟨⟨.par 0,[]⟩,0,1⟩),cic b,csc c,pP 0,pP 0,.c (.ptr ⟨⟨.par 0,[]⟩,0,1⟩),cic b]++rep 24 .undef,[(.loc 2,[ic 0,sc (strB []),ic 0,ic 0,ic 0]),(.par 0,[sc a,ic b])]⟩:Fr)=⟨[pP 0,.undef,pL 2,csc c,cic b,pP 0,pP 0,pP 0,.c (.ptr ⟨⟨.par 0,[]⟩,0,1⟩),cic b,csc c,pP 0,pP 0,.c (.ptr ⟨⟨.par 0,[]⟩,0,1⟩),cic b]++rep 24 .undef,[(.loc 2,[ic 0,sc (strB []),ic 0,ic 0,ic 0]),(.par 0,[sc a,ic b])]⟩),trivial⟩⟩ <|
   some (.inl (1,c,0,0,b,IntKind.i64.wrap (b+(c.size:Int))))
  else
   (tg 32 (YF c)).bind fun e=>
   bif e then
    ins 4 ⟨(some 9999,.alt 5 9),[_],⟨(rfl:(⟨[pP 0,.undef,pL 2,csc c,cic b,pP 0,pP 0,pP 0,.c (.ptr ⟨⟨.par 0,[]⟩,0,1⟩),cic b,csc c,pP 0,pP 0,.c (.ptr ⟨⟨.par 0,[]⟩,0,1⟩),cic b]++rep 24 .undef,[(.loc 2,[ic 0,sc (strB []),ic 0,ic 0,ic 0]),(.par 0,[sc a,ic b])]⟩:Fr)=⟨[pP 0,.undef,pL 2,csc c,cic b,pP 0,pP 0,pP 0,.c (.ptr ⟨⟨.par 0,[]⟩,0,1⟩),cic b,csc c,pP 0,pP 0,.c (.ptr ⟨⟨.par 0,[]⟩,0,1⟩),cic b]++rep 24 .undef,[(.loc 2,[ic 0,sc (strB []),ic 0,ic 0,ic 0]),(.par 0,[sc a,ic b])]⟩),trivial⟩⟩ <|
    some (.inl (2,c,0,0,b,IntKind.i64.wrap (b+(c.size:Int))))
   else
    ins 4 ⟨(some 9999,.alt 5 9),[_],⟨(rfl:(⟨[pP 0,.undef,pL 2,csc c,cic b,pP 0,pP 0,pP 0,.c (.ptr ⟨⟨.par 0,[]⟩,0,1⟩),cic b,csc c,pP 0,pP 0,.c (.ptr ⟨⟨.par 0,[]⟩,0,1⟩),cic b]++rep 24 .undef,[(.loc 2,[ic 0,sc (strB []),ic 0,ic 0,ic 0]),(.par 0,[sc a,ic b])]⟩:Fr)=⟨[pP 0,.undef,pL 2,csc c,cic b,pP 0,pP 0,pP 0,.c (.ptr ⟨⟨.par 0,[]⟩,0,1⟩),cic b,csc c,pP 0,pP 0,.c (.ptr ⟨⟨.par 0,[]⟩,0,1⟩),cic b]++rep 24 .undef,[(.loc 2,[ic 0,sc (strB []),ic 0,ic 0,ic 0]),(.par 0,[sc a,ic b])]⟩),trivial⟩⟩ <|
    some (.inr (b,IntKind.i64.wrap (b+(c.size:Int))))
def g70 (k:Nat)(a:By)(b:Int):Option R70:=itS qoO k (.e a b)
def P70:S70->R70->Prop
 |.e a b=>Fe Y70 qlU (bx70 a) [pP 0] [[sc a,ic b]]
theorem ok70:∀ k s r,itS qoO k s=some r->P70 s r:=okU trivial
instance {k:Nat} {a:By} {b:Int}:EvI (g70 k a b) 70 [pP 0] [[sc a,ic b]] qlU (bx70 a):=eI ok70
abbrev R98:=By
def qvS (k:Nat)(rec:S98->Option R98):S98->Option R98
 |.e a b c=>rec (tg 7 (.h0 a a b c))
 |.h0 a b c d=>
  bif tg 13 (decide (b<(c.size:Int)))then
   sxI c (tg 20 b) fun e=>
   (tg 21 (g71 k e)).bind fun f=>
   rec (tg 4 (.h1 a b f c d))
  else
   rec (tg 4 (.h1 a b false c d))
 |.h1 a b c d e=>
  bif c then
   rec (tg 5 (.h0 a (IntKind.i64.wrap (b+1)) d e))
  else
   gd (tg 31 (tg 0 (decide (0<=a/\a<=b/\b<=(d.size:Int))))) <|
   some (d.extract (Int.toNat a) (Int.toNat b))
def g98 (k:Nat)(a:Int)(b:By)(c:Int):Option R98:=itS qvS k (.e a b c)
def P98:S98->R98->Prop
 |.e a b c=>Fe Y98 qyF (bx97 b c) [pP 0,cic a] [[sc b,ic c]]
 |.h0 a b c d=>Fk Y98 qyF (bx97 c d) [1,1,0,0,4] ([pP 0,cic a]++rd 3++[cic b]++rd 26) [(.par 0,[sc c,ic d])]
 |.h1 a b c d e=>Fk Y98 qyF (bx97 d e) [1,1,0,0,0,0,1,2] ([pP 0,cic a]++rd 3++[cic b]++rd 16++[cbc c]++rd 9) [(.par 0,[sc d,ic e])]
theorem ok98:∀ k s r,itS qvS k s=some r->P98 s r:=okU trivial
instance {k:Nat} {a:Int} {b:By} {c:Int}:EvI (g98 k a b c) 98 [pP 0,cic a] [[sc b,ic c]] qyF (bx97 b c):=eI ok98
abbrev R72:=(Int×Int)⊕(Int×By×Int×Int×Int×Int)
def qyY:R72->ARes
 |(.inl (a,_))=>.panic (.iface 89 (.agg #[.int .i64 a]))
 |(.inr (a,b,c,d,e,_))=>.ret (.ag [ic a,sc b,ic c,ic d,ic e])
def bx72 (b0_0:ByteArray):R72->List (List Cell)
 |(.inl (_,a))=>[[sc b0_0,ic a]]
 |(.inr (_,_,_,_,_,a))=>[[sc b0_0,ic a]]
def qvB (k:Nat)(rec:S72->Option R72):S72->Option R72
 |.e a b=>
  (g98 k b a b).bind fun c=>
  bif decide ((IntKind.i64.wrap (b+(c.size:Int)))<(a.size:Int))then
   sxI a (IntKind.i64.wrap (b+(c.size:Int))) fun d=>
   rec (.h0 b c (strB []) (d==46) 0 (strB []) 0 0 0 a (IntKind.i64.wrap (b+(c.size:Int))))
  else
   rec (.h0 b c (strB []) false 0 (strB []) 0 0 0 a (IntKind.i64.wrap (b+(c.size:Int))))
 |.h0 a b c d e f g i j l m=>
  bif d then
   (g98 k (IntKind.i64.wrap (m+1)) l m).bind fun n=>
   rec (.h1 a b n e f g i j l m)
  else
   rec (.h1 a b c e f g i j l m)
 |.h1 a b c d e f g i j l=>
  bif decide ((b.size:Int)>1)then
   sxI b 0 fun m=>
   rec (.h2 a b c (m==48) d e f g i j l)
  else
   rec (.h2 a b c false d e f g i j l)
 |.h2 b c d e _ _ _ _ _ _ f=>
  bif e then
   some (.inl (b,f))
  else
   bif d.toList==(strB []).toList then
    (qag c).bind fun g=>
    optC g (
      some (.inl (b,f))) fun i=>
     some (.inr (3,strB [],i,0,b,f))
   else
    bif decide ((IntKind.i64.wrap ((c.size:Int)+(d.size:Int)))>15)then
     some (.inl (b,f))
    else
     gd (decide (c.size+d.size<=1000000000)) <|
     (qag (c++d)).bind fun i=>
     optC i (
       none   /- a result that hangs on what is not told -/) fun j=>
      some (.inr (4,strB [],j,(d.size:Int),b,IntKind.i64.wrap (f+(IntKind.i64.wrap ((1:Int)+(d.size:Int))))))
def g72 (k:Nat)(a:By)(b:Int):Option R72:=itS qvB k (.e a b)
def P72:S72->R72->Prop
 |.e a b=>Fe Y72 qyY (bx72 a) [pP 0] [[sc a,ic b]]
 |.h0 a b c d e f g i j l m=>Fk Y72 qyY (bx72 l) [1,1,1,1,1,0,1,2] ([pP 0,.deadv,pL 2,cic a,csc b,csc c]++rd 41++[cbc d]++rd 64) [(.loc 2,[ic e,sc f,ic g,ic i,ic j]),(.par 0,[sc l,ic m])]
 |.h1 a b c d e f g i j l=>Fk Y72 qyY (bx72 j) [1,1,1,1,1,1,2] ([pP 0,.deadv,pL 2,cic a,csc b,csc c]++rd 106) [(.loc 2,[ic d,sc e,ic f,ic g,ic i]),(.par 0,[sc j,ic l])]
 |.h2 a b c d e f g i j l m=>Fk Y72 qyY (bx72 l) [1,1,1,1,1,1,0,1,2] ([pP 0,.deadv,pL 2,cic a,csc b,csc c]++rd 56++[cbc d]++rd 49) [(.loc 2,[ic e,sc f,ic g,ic i,ic j]),(.par 0,[sc l,ic m])]
abbrev E72 (a:By)(b:Int)(r:R72):Prop:=Ev Tryz.prog noHand 72 [pP 0] [[sc a,ic b]] (qyY r) (bx72 a r)
theorem qE3 {a:By}{b:Int}{r:R72}(h:P72 (.e a b) r):E72 a b r:=evF h
theorem ok72:∀ k s r,itS qvB k s=some r->P72 s r:=qF fun k rec ih s r h=>match s,h with
 |.e ..,h=>by
  obtain⟨_,a,h⟩:=qh h;rcases qa h with⟨b,h⟩|⟨b,h⟩
  . obtain⟨_,c,h⟩:=Xm h;exact mA 1 (ih _ _ h) 13 [cA 16 (evI a),tT 35 b,sA 45 c] 112 5192296858534827628389758840864706
  . exact mA 1 (ih _ _ h) 13 [cA 16 (evI a),tF 35 b] 112 5192296858534827628389758840864706
 |.h0 ..,h=>by
  replace h:=qa h;rcases h with⟨rfl,h⟩|⟨rfl,h⟩
  . obtain⟨_,a,h⟩:=qh h;exact mA 1 (ih _ _ h) 2 [cA 54 (evI a)] 112 5192296858534827628530496329220034
  . exact mA 1 (ih _ _ h) 2 [] 112 5192296858534827628530496329220034
 |.h1 ..,h=>by
  rcases qa h with⟨a,h⟩|⟨a,h⟩
  . obtain⟨_,b,h⟩:=Xm h;exact mA 1 (ih _ _ h) 3 [tT 57 a,sA 60 b] 112 5192296858534823016844477901832130
  . exact mA 1 (ih _ _ h) 3 [tF 57 a] 112 5192296858534823016844477901832130
 |.h2 a b c _ d e f g i l o,h=>by
  replace h:=qa h;rcases h with⟨rfl,h⟩|⟨rfl,h⟩
  . cases h;exact mF 1 []
  .
   rcases qa h with⟨p,h⟩|⟨p,h⟩
   . obtain⟨_,q,h⟩:=qh h;replace h:=qgU h;rcases h with⟨_,rfl,h⟩|⟨rfl,h⟩
     . cases h;exact mF 1 [tT 67 p,cA 70 (qdZ q)]
     . rw[<- aR h];exact qhs (nb:=1) hmix (qjh (qga q) (K0:=(kAt Y72.code [1,1,1,1,1,1,1,0,1,0,0,2] [])) (F:=⟨[pP 0,.deadv,pL 2,cic a,csc b,csc c]++rd 56++[cbc false]++rd 3++[csc c,cbc true]++rd 44,[(.loc 2,[ic d,sc e,ic f,ic g,ic i]),(.par 0,[sc l,ic o])]⟩) (K1:=(kAt Y72.code [1,1,1,1,1,1,1,0,1,0,0,3] [])) (F3:=fun xe1=>⟨[pP 0,.deadv,pL 2,cic a,csc b,csc c,.c (ic xe1.1),.c (.val (.iface 169 (.pointer (some ⟨xe1.2,0,none⟩))))]++rd 54++[cbc false]++rd 3++[csc c,cbc true,⟨.tup [false,false],[[ic xe1.1],[.val (.iface 169 (.pointer (some ⟨xe1.2,0,none⟩)))]]⟩,csc b,⟨.tup [false,false],[[ic xe1.1],[.val (.iface 169 (.pointer (some ⟨xe1.2,0,none⟩)))]]⟩,.c (ic xe1.1),.c (.val (.iface 169 (.pointer (some ⟨xe1.2,0,none⟩))))]++rd 39,[(.loc 2,[ic d,sc e,ic f,ic g,ic i]),(.par 0,[sc l,ic o])]⟩) (j:=1) (ad1:=[]) (ad2:=fun xe1=>[]) (ps:=fun xe1=>[isX 99 [csc b,cic 10,cic 64] (ZY xe1) 99 [csc b,cic 10,cic 64] [] (.ret (ZY xe1)) []]) (thaw:=true) ((0,0)) (fun xe1=>zO (nb:=1) hmix (n:=2000) (ad:=[]) (ps:=[]) (by kernel_rfl) trivial) (fun xe1=>by kernel_rfl) (fun xe1=>⟨⟨rfl,rfl,rfl,rfl,rfl⟩,trivial⟩)) (n:=7) (ad:=[(some 67,.test true)]) (ps:=[_]) (m:=bm 112 0) (ls:=[]) (cs:=[]) (by kernel_rfl) ⟨p,trivial⟩
   .
    rcases qa h with⟨t,h⟩|⟨t,h⟩
    . cases h;exact mF 1 [tF 67 p,tT 86 t]
    . obtain⟨q,h⟩:=zo h;obtain⟨_,u,h⟩:=qh h;replace h:=qgU h;rcases h with⟨_,rfl,h⟩|⟨rfl,h⟩
      . cases h;exact mF 1 [tF 67 p,tF 86 t,xC 103 q,cA 104 (qdZ u)]
      . cases h
theorem ev72 {k:Nat}{a:By}{b:Int}{r:R72}(h:g72 k a b=some r):E72 a b r:=qE3 (ok72 _ _ _ h)
instance {k:Nat} {a:By} {b:Int}:EvI (g72 k a b) 72 [pP 0] [[sc a,ic b]] qyY (bx72 a):=⟨fun r h=>ev72 h⟩
abbrev R73:=(Int×Int)⊕(Int×By×Int×Int×Int×Int)
def qsw (k:Nat)(rec:S73->Option R73):S73->Option R73
 |.e a b=>
  (tg 13 (g97 k (IntKind.i64.wrap (b+1)) a b)).bind fun c=>
  (tg 20 (YF c)).bind fun d=>
  bif tg 21 (!d)then
   rec (tg 11 (.h0 b c (IntKind.i64.wrap ((IntKind.i64.wrap (b+1))+(c.size:Int))) true 0 (strB []) 0 0 0 a b))
  else
   bif tg 29 ((IntKind.i64.wrap ((IntKind.i64.wrap (b+1))+(c.size:Int)))==(a.size:Int))then
    rec (tg 11 (.h0 b c (IntKind.i64.wrap ((IntKind.i64.wrap (b+1))+(c.size:Int))) true 0 (strB []) 0 0 0 a b))
   else
    sxI a (tg 37 (IntKind.i64.wrap ((IntKind.i64.wrap (b+1))+(c.size:Int)))) fun e=>
    rec (tg 11 (.h0 b c (IntKind.i64.wrap ((IntKind.i64.wrap (b+1))+(c.size:Int))) (e != 39) 0 (strB []) 0 0 0 a b))
 |.h0 a b c d _ _ _ _ _ _ e=>
  bif d then
   some (.inl (a,e))
  else
   some (.inr (5,b,0,0,a,IntKind.i64.wrap (c+1)))
def g73 (k:Nat)(a:By)(b:Int):Option R73:=itS qsw k (.e a b)
def P73:S73->R73->Prop
 |.e a b=>Fe Y73 qyY (bx72 a) [pP 0] [[sc a,ic b]]
 |.h0 a b c d e f g i j l m=>Fk Y73 qyY (bx72 l) [1,1,1,1,0,1,2] ([pP 0,.deadv,pL 2,cic a,csc b,cic c]++rd 33++[cbc d]++rd 11) [(.loc 2,[ic e,sc f,ic g,ic i,ic j]),(.par 0,[sc l,ic m])]
theorem ok73:∀ k s r,itS qsw k s=some r->P73 s r:=okU trivial
instance {k:Nat} {a:By} {b:Int}:EvI (g73 k a b) 73 [pP 0] [[sc a,ic b]] qyY (bx72 a):=eI ok73
abbrev R74:=(Int×By×Int×Int×Int×Int)⊕(Int×Int)
def qpu (k:Nat)(rec:S74->Option R74):S74->Option R74
 |.e a b=>
  sxI a (tg 15 b) fun c=>
  bif tg 18 (c==33)then
   rec (tg 23 (.h0 b 1 c true 0 (strB []) 0 0 0 a b))
  else
   bif tg 19 (c==60)then
    rec (tg 26 (.h0 b 1 c true 0 (strB []) 0 0 0 a b))
   else
    rec (tg 26 (.h0 b 1 c (c==62) 0 (strB []) 0 0 0 a b))
 |.h0 a b c d e f g i j l m=>
  bif d then
   bif tg 40 (decide ((IntKind.i64.wrap (a+1))<(l.size:Int)))then
    sxI l (tg 48 (IntKind.i64.wrap (a+1))) fun n=>
    rec (tg 4 (.h1 a b (n==61) e f g i j l m))
   else
    rec (tg 4 (.h1 a b false e f g i j l m))
  else
   bif tg 22 (c==40)then
    rec (tg 7 (.h2 a b true e f g i j l m))
   else
    bif tg 23 (c==41)then
     rec (tg 10 (.h2 a b true e f g i j l m))
    else
     bif tg 24 (c==44)then
      rec (tg 13 (.h2 a b true e f g i j l m))
     else
      bif tg 25 (c==46)then
       rec (tg 16 (.h2 a b true e f g i j l m))
      else
       bif tg 26 (c==43)then
        rec (tg 19 (.h2 a b true e f g i j l m))
       else
        bif tg 27 (c==45)then
         rec (tg 22 (.h2 a b true e f g i j l m))
        else
         bif tg 28 (c==42)then
          rec (tg 25 (.h2 a b true e f g i j l m))
         else
          bif tg 29 (c==47)then
           rec (tg 28 (.h2 a b true e f g i j l m))
          else
           bif tg 30 (c==37)then
            rec (tg 31 (.h2 a b true e f g i j l m))
           else
            bif tg 31 (c==61)then
             rec (tg 34 (.h2 a b true e f g i j l m))
            else
             rec (tg 34 (.h2 a b (c==124) e f g i j l m))
 |.h1 a b c d e f g i j l=>
  bif c then
   rec (tg 3 (.h3 a 2 d e f g i j l))
  else
   rec (tg 3 (.h3 a b d e f g i j l))
 |.h2 a b c d e f g i j l=>
  bif c then
   rec (tg 2 (.h3 a b d e f g i j l))
  else
   some (.inr (a,l))
 |.h3 a b _ _ _ _ _ c d=>
  gd (tg 68 (tg 0 (decide (0<=a/\a<=(IntKind.i64.wrap (d+b))/\(IntKind.i64.wrap (d+b))<=(c.size:Int))))) <|
  some (.inl (6,(c.extract (Int.toNat a) (Int.toNat (IntKind.i64.wrap (d+b)))),0,0,a,IntKind.i64.wrap (d+b)))
def g74 (k:Nat)(a:By)(b:Int):Option R74:=itS qpu k (.e a b)
def P74:S74->R74->Prop
 |.e a b=>Fe Y74 qlU (bx70 a) [pP 0] [[sc a,ic b]]
 |.h0 a b c d e f g i j l m=>Fk Y74 qlU (bx70 l) [1,1,1,1,0,1,0,0,0,0,0,0,0,1,2] ([pP 0,.deadv,pL 2,cic a,.deadv,cic b]++rd 10++[cu c,cbc d]++rd 56) [(.loc 2,[ic e,sc f,ic g,ic i,ic j]),(.par 0,[sc l,ic m])]
 |.h1 a b c d e f g i j l=>Fk Y74 qlU (bx70 j) [1,1,1,1,0,1,0,0,0,1,1,2] ([pP 0,.deadv,pL 2,cic a,.deadv,cic b]++rd 44++[cbc c]++rd 23) [(.loc 2,[ic d,sc e,ic f,ic g,ic i]),(.par 0,[sc j,ic l])]
 |.h2 a b c d e f g i j l=>Fk Y74 qlU (bx70 j) [1,1,1,1,0,1,0,0,0,0,0,0,1,1,2] ([pP 0,.deadv,pL 2,cic a,.deadv,cic b]++rd 15++[cbc c]++rd 52) [(.loc 2,[ic d,sc e,ic f,ic g,ic i]),(.par 0,[sc j,ic l])]
 |.h3 a b c d e f g i j=>Fk Y74 qlU (bx70 i) [1,1,1,1,0,1,0,1,2] ([pP 0,.deadv,pL 2,cic a,.deadv,cic b]++rd 68) [(.loc 2,[ic c,sc d,ic e,ic f,ic g]),(.par 0,[sc i,ic j])]
theorem ok74:∀ k s r,itS qpu k s=some r->P74 s r:=okU trivial
instance {k:Nat} {a:By} {b:Int}:EvI (g74 k a b) 74 [pP 0] [[sc a,ic b]] qlU (bx70 a):=eI ok74
abbrev R39:=(Int×By×Int×Int×Int×Int)⊕(Int×Int)
def qpB (k:Nat)(rec:S39->Option R39):S39->Option R39
 |.e a b=>rec (tg 5 (.h0 0 (strB []) 0 0 0 a b))
 |.h0 a b c d e f g=>
  bif tg 13 (decide (g<(f.size:Int)))then
   sxI f (tg 23 g) fun i=>
   (tg 24 (g68 k i)).bind fun j=>
   rec (tg 4 (.h1 j a b c d e f g))
  else
   rec (tg 4 (.h1 false a b c d e f g))
 |.h1 a b c d e f g i=>
  bif a then
   rec (tg 5 (.h0 b c d e f g (IntKind.i64.wrap (i+1))))
  else
   bif tg 42 (i==(g.size:Int))then
    some (.inl (0,strB [],0,0,i,i))
   else
    sxI g (tg 56 i) fun j=>
    (tg 59 (g69 k j)).bind fun l=>
    bif l then
     (tg 61 (g70 k g i)).bind fun m=>
     altC m (fun n=>
       tup6 n fun o p q t u v=>
       some (.inl (o,p,q,t,u,v))) (fun n=>
       tup2 n fun w v=>
       some (.inr (w,v)))
    else
     (tg 64 (g71 k j)).bind fun m=>
     bif m then
      (tg 66 (g72 k g i)).bind fun n=>
      altC n (fun x=>
        tup2 x fun y z=>
        some (.inr (y,z))) (fun x=>
        tup6 x fun a1 b1 c1 d1 e1 z=>
        some (.inl (a1,b1,c1,d1,e1,z)))
     else
      bif tg 69 (j==39)then
       (tg 71 (g73 k g i)).bind fun f1=>
       altC f1 (fun g1=>
         tup2 g1 fun i1 j1=>
         some (.inr (i1,j1))) (fun g1=>
         tup6 g1 fun l1 m1 n1 o1 p1 j1=>
         some (.inl (l1,m1,n1,o1,p1,j1)))
      else
       (tg 73 (g74 k g i)).bind fun f1=>
       altC f1 (fun g1=>
         tup6 g1 fun l1 m1 n1 o1 p1 j1=>
         some (.inl (l1,m1,n1,o1,p1,j1))) (fun g1=>
         tup2 g1 fun i1 j1=>
         some (.inr (i1,j1)))
def g39 (k:Nat)(a:By)(b:Int):Option R39:=itS qpB k (.e a b)
def P39:S39->R39->Prop
 |.e a b=>Fe Y39 qlU (bx70 a) [pP 0] [[sc a,ic b]]
 |.h0 a b c d e f g=>Fk Y39 qlU (bx70 f) [1,0,0,4] ([pP 0,.deadv,pL 2]++rd 71) [(.loc 2,[ic a,sc b,ic c,ic d,ic e]),(.par 0,[sc f,ic g])]
 |.h1 a b c d e f g i=>Fk Y39 qlU (bx70 g) [1,0,0,0,0,1,2] ([pP 0,.deadv,pL 2]++rd 22++[cbc a]++rd 48) [(.loc 2,[ic b,sc c,ic d,ic e,ic f]),(.par 0,[sc g,ic i])]
theorem ok39:∀ k s r,itS qpB k s=some r->P39 s r:=okU trivial
instance {k:Nat} {a:By} {b:Int}:EvI (g39 k a b) 39 [pP 0] [[sc a,ic b]] qlU (bx70 a):=eI ok39
abbrev R12:=(Rs×Int×Int)⊕(Int×Int)
def qry:R12->ARes
 |(.inl (a,b,c))=>.ret ⟨.tup [false,false,false],[[.imm a],[ic b],[ic c]]⟩
 |(.inr (a,b))=>.ret ⟨.tup [false,false,false],[[.nil],[ic a],[ic b]]⟩
def bx12:R12->List (List Cell)
 |(.inl (_,_,_))=>[]
 |(.inr (_,_))=>[]
def qmH (k:Nat)(rec:S12->Option R12):S12->Option R12
 |.e a=>
  bif decide ((a.size:Int)>4000)then
   rec (.h0 2 0 [])
  else
   rec (.h1 a 0 0 0 [])
 |.h0 a b c=>some (.inl (c,b,a))
 |.h1 a b c d e=>
  (g39 k a b).bind fun f=>
  altC f (fun g=>
    tup6 g fun i j l m n o=>
    gd (apOk 48 5 e [[ic i,sc j,ic l,ic m,ic n]]) <|
    bif i==0 then
     rec (.h2 0 0 (qG (e++[[ic i,sc j,ic l,ic m,ic n]])))
    else
     rec (.h1 a o c d (e++[[ic i,sc j,ic l,ic m,ic n]]))) (fun g=>
    tup2 g fun p o=>
    some (.inr (p,12)))
 |.h2 a b c=>some (.inl (c,b,a))
def g12 (k:Nat)(a:By):Option R12:=itS qmH k (.e a)
def P12:S12->R12->Prop
 |.e a,r=>FinD Y12.cx Tryz.f12 (DOf Y12.cx.P none 0) [.code Y12.code] (fr0 Tryz.f12 [csc a] []) (qry r) (bx12 r)
 |.h0 a b c,r=>FinD Y12.cx Tryz.f12 (DOf Y12.cx.P none 0) (kAt Y12.code [1,0,1,0,1,2] []) ⟨[.deadv,.deadv,pL 2,pL 3,pL 4]++rd 19,[(.loc 4,[ic a]),(.loc 3,[ic b]),(.loc 2,[.imm c])]⟩ (qry r) (bx12 r)
 |.h1 a b c d e,r=>FinD Y12.cx Tryz.f12 (DOf Y12.cx.P (some 10) 38) (kAt Y12.code [1,1,1,1,0,4] []) ⟨[.deadv,.deadv,pL 2,pL 3,pL 4,pL 13]++rd 4++[.c (.clo 38 [] [.ptr ⟨⟨.loc 2,[]⟩,0,0⟩,.ptr ⟨⟨.loc 3,[]⟩,0,0⟩,.ptr ⟨⟨.loc 4,[]⟩,0,0⟩])]++rd 13,[(.loc 13,[sc a,ic b]),(.loc 4,[ic c]),(.loc 3,[ic d]),(.loc 2,[.own 5 e])]⟩ (qry r) (bx12 r)
 |.h2 a b c,r=>FinD Y12.cx Tryz.f12 (DOf Y12.cx.P (some 10) 38) (kAt Y12.code [1,1,1,1,0,0,0,1,1,1,0,1,2] []) ⟨[.deadv,.deadv,pL 2,pL 3,pL 4]++rd 5++[.c (.clo 38 [] [.ptr ⟨⟨.loc 2,[]⟩,0,0⟩,.ptr ⟨⟨.loc 3,[]⟩,0,0⟩,.ptr ⟨⟨.loc 4,[]⟩,0,0⟩])]++rd 13,[(.loc 4,[ic a]),(.loc 3,[ic b]),(.loc 2,[.imm c])]⟩ (qry r) (bx12 r)
abbrev E12 (a:By)(r:R12):Prop:=Ev Tryz.prog noHand 12 [csc a] [] (qry r) (bx12 r)
theorem que {a:By}{r:R12}(h:P12 (.e a) r):E12 a r:=evD h
theorem qtj {b0_0:Rs}{b1_0 b2_0 pv_i00:Int}:EvD Tryz.prog (.panicking [{ v:=.iface 89 (.agg #[.int .i64 pv_i00]),recovered:=false }]) (.panicking [{ v:=.iface 89 (.agg #[.int .i64 pv_i00]),recovered:=true }]) 38 [pP 0,pP 1,pP 2] [[.own 5 b0_0],[ic b1_0],[ic b2_0]] (.ret .undef) [[.nil],[ic pv_i00],[ic 12]]:=qcj (fn:=Tryz.f38) (body:=Y38.code) (cx:=Y38.cx) (nb:=3) (n:=2000) (val:=.iface 89 (.agg #[.int .i64 pv_i00])) (ad1:=[]) (ad2:=[]) (ps:=[]) (by kernel_rfl) (by kernel_rfl) rfl hmix rfl (.inl ⟨rfl,rfl⟩) (by kernel_rfl) trivial
theorem qtk {b0_0:Rs}{b1_0 b2_0:Int}:EvD Tryz.prog .returning .returning 38 [pP 0,pP 1,pP 2] [[.imm b0_0],[ic b1_0],[ic b2_0]] (.ret .undef) [[.imm b0_0],[ic b1_0],[ic b2_0]]:=qcj (fn:=Tryz.f38) (body:=Y38.code) (cx:=Y38.cx) (nb:=3) (n:=2000) (val:=.nilIface) (ad1:=[]) (ad2:=[]) (ps:=[]) (by kernel_rfl) (by kernel_rfl) rfl hmix rfl (.inr ⟨rfl,rfl,rfl⟩) (by kernel_rfl) trivial
theorem ok12:∀ k s r,itS qmH k s=some r->P12 s r:=qF fun k rec ih s r h=>match s,h with
 |.e a,h=>by
  rcases qa h with⟨b,h⟩|⟨b,h⟩
  . exact Ya (t:=none) (f:=0) hmix (ih _ _ h) (n:=8) (ad:=[(some 9,.test true)]) (ps:=[_]) (m:=bm 24 16777187) (ls:=[]) (cs:=[(⟨⟨.loc 2,[]⟩,0,0⟩,none)]) (by kernel_rfl) ⟨b,trivial⟩
  . exact Ya (t:=none) (f:=0) hmix (qg9 (Q:=fun G0 w0=>bodyPostD Y12.cx.P Tryz.f12 (Went G0 w0 _ _)) (K0:=(kAt Y12.code [1,1,0,2] [])) (F:=⟨[csc a,.undef,pL 2,pL 3,pL 4,.undef,.undef,csc a,.c (ic (a.size:Int)),cbc false]++rep 14 .undef,[(.loc 4,[ic 0]),(.loc 3,[ic 0]),(.loc 2,[.nil])]⟩) (k:=10) (f:=38) (K1:=(kAt Y12.code [1,1,0,3] [])) (F1:=⟨[csc a,.undef,pL 2,pL 3,pL 4,.undef,.undef,csc a,.c (ic (a.size:Int)),cbc false,.c (.clo 38 [] [.ptr ⟨⟨.loc 2,[]⟩,0,0⟩,.ptr ⟨⟨.loc 3,[]⟩,0,0⟩,.ptr ⟨⟨.loc 4,[]⟩,0,0⟩])]++rep 13 .undef,[(.loc 4,[ic 0]),(.loc 3,[ic 0]),(.loc 2,[.nil])]⟩) (ad:=[]) (ps:=[]) ⟨Tryz.f38,by kernel_rfl,by kernel_rfl,by kernel_rfl⟩ (Ya (t:=some 10) (f:=38) hmix (ih _ _ h) (n:=4) (ad:=[]) (ps:=[]) (m:=bm 24 16776131) (ls:=[]) (cs:=[(⟨⟨.loc 2,[]⟩,0,0⟩,some 5)]) (by kernel_rfl) trivial) (by kernel_rfl) trivial) (n:=8) (ad:=[(some 9,.test false)]) (ps:=[_]) (m:=bm 24 0) (ls:=[]) (cs:=[]) (by kernel_rfl) ⟨b,trivial⟩
 |.h0 ..,h=>by rw[<- aR h];exact Yz (nb:=0) (t:=none) (f:=0) hmix (n:=2000) (ad:=[]) (ps:=[]) (bx':=[]) (by kernel_rfl) trivial
 |.h1 a _ b c d,h=>by
  obtain⟨_,e,h⟩:=qh h;replace h:=qf h;rcases h with⟨_,rfl,h⟩|⟨_,rfl,h⟩
  . replace h:=qk3 h;obtain⟨g,i,j,l,o,p,rfl,h⟩:=h;obtain⟨q,h⟩:=zo h;rcases qa h with⟨u,h⟩|⟨u,h⟩
    . exact Ya (t:=some 10) (f:=38) hmix (ih _ _ h) (n:=11) (ad:=[(some 15,.call (.ret (.ag [ic g,sc i,ic j,ic l,ic o])) [[sc a,ic p]] false),(some 19,.okE false),(some 22,.test true)]) (ps:=[_,_,_]) (m:=bm 24 16776163) (ls:=[6,13]) (cs:=[]) (by kernel_rfl) ⟨(evI e),okF [[ic g,sc i,ic j,ic l,ic o]] q,u,trivial⟩
    . exact Ya (t:=some 10) (f:=38) hmix (ih _ _ h) (n:=11) (ad:=[(some 15,.call (.ret (.ag [ic g,sc i,ic j,ic l,ic o])) [[sc a,ic p]] false),(some 19,.okE false),(some 22,.test false)]) (ps:=[_,_,_]) (m:=bm 24 16776131) (ls:=[6]) (cs:=[]) (by kernel_rfl) ⟨(evI e),okF [[ic g,sc i,ic j,ic l,ic o]] q,u,trivial⟩
  . replace h:=QD h;obtain⟨v,p,rfl,h⟩:=h;rw[<- aR h];exact Yz (nb:=0) (t:=some 10) (f:=38) hmix (n:=2000) (ad:=[(some 15,.call (.panic (.iface 89 (.agg #[.int .i64 v]))) [[sc a,ic p]] false)]) (ps:=[_,_]) (bx':=[[.nil],[ic v],[ic 12]]) (by kernel_rfl) ⟨(evI e),(qtj (b0_0:=d) (b1_0:=c) (b2_0:=b) (pv_i00:=v)),trivial⟩
 |.h2 a b c,h=>by rw[<- aR h];exact Yz (nb:=0) (t:=some 10) (f:=38) hmix (n:=2000) (ad:=[]) (ps:=[_]) (bx':=[[.imm c],[ic b],[ic a]]) (by kernel_rfl) ⟨(qtk (b0_0:=c) (b1_0:=b) (b2_0:=a)),trivial⟩
theorem ev12 {k:Nat}{a:By}{r:R12}(h:g12 k a=some r):E12 a r:=que (ok12 _ _ _ h)
instance {k:Nat} {a:By}:EvI (g12 k a) 12 [csc a] [] qry bx12:=⟨fun r h=>ev12 h⟩
abbrev R46b:=Int×By×Int×Int×Int×Rs×Rs×Rs
def qBG:R46b->ARes
 |(a,b,c,d,e,_,_,_)=>.ret (.ag [ic a,sc b,ic c,ic d,ic e])
def qDq (b0_1 b0_4 b0_5:Int)(b0_6:ByteArray)(b0_7:Int):R46b->List (List Cell)
 |(_,_,_,_,_,a,b,c)=>[[.imm a,ic b0_1,.own 1 b,.own 7 c,ic b0_4,ic b0_5,sc b0_6,ic b0_7]]
def qxH (k:Nat)(rec:S46b->Option R46b):S46b->Option R46b
 |.e a b c d ..=>
  ixR a (tg 11 b) fun e=>
  qaM e fun f g i j l=>
  some (f,g,i,j,l,a,c,d)
def g46b (k:Nat)(a:Rs)(b:Int)(c d:Rs)(e f:Int)(g:By)(i:Int):Option R46b:=itS qxH k (.e a b c d e f g i)
def P46b:S46b->R46b->Prop
 |.e a b c d e f g i=>Fe Y46 qBG (qDq b e f g i) [pP 0] [[.imm a,ic b,.own 1 c,.own 7 d,ic e,ic f,sc g,ic i]]
theorem qFC:∀ k s r,itS qxH k s=some r->P46b s r:=okU (And.intro @qvg trivial)
instance {k:Nat} {a:Rs} {b:Int} {c d:Rs} {e f:Int} {g:By} {i:Int}:EvI (g46b k a b c d e f g i) 46 [pP 0] [[.imm a,ic b,.own 1 c,.own 7 d,ic e,ic f,sc g,ic i]] qBG (qDq b e f g i):=eI qFC
abbrev R42b:=Bool×Rs×Rs×Rs
def qBF:R42b->ARes
 |(r,_,_,_)=>.ret (cbc r)
def qDp (b0_1 b0_4 b0_5:Int)(b0_6:ByteArray)(b0_7:Int):R42b->List (List Cell)
 |(_,a,b,c)=>[[.imm a,ic b0_1,.own 1 b,.own 7 c,ic b0_4,ic b0_5,sc b0_6,ic b0_7]]
def qxG (k:Nat)(rec:S42b->Option R42b):S42b->Option R42b
 |.e a b c d e f g i j=>
  (tg 7 (g46b k b c d e f g i j)).bind fun l=>
  tup8 l fun m n _ _ _ o p q=>
  bif tg 10 (m==1)then
   some (n.toList==a.toList,o,p,q)
  else
   bif tg 14 (m==6)then
    some (n.toList==a.toList,o,p,q)
   else
    some (false,o,p,q)
def g42b (k:Nat)(a:By)(b:Rs)(c:Int)(d e:Rs)(f g:Int)(i:By)(j:Int):Option R42b:=itS qxG k (.e a b c d e f g i j)
def P42b:S42b->R42b->Prop
 |.e a b c d e f g i j=>Fe Y42 qBF (qDp c f g i j) [pP 0,csc a] [[.imm b,ic c,.own 1 d,.own 7 e,ic f,ic g,sc i,ic j]]
theorem qFA:∀ k s r,itS qxG k s=some r->P42b s r:=okU trivial
instance {k:Nat} {a:By} {b:Rs} {c:Int} {d e:Rs} {f g:Int} {i:By} {j:Int}:EvI (g42b k a b c d e f g i j) 42 [pP 0,csc a] [[.imm b,ic c,.own 1 d,.own 7 e,ic f,ic g,sc i,ic j]] qBF (qDp c f g i j):=eI qFA
abbrev R47b:=Int×Int×Rs×Rs×Rs
def qBH:R47b->ARes
 |(a,b,_,_,_)=>.panic (.iface 44 (.agg #[.int .i64 a,.int .i64 b]))
def qDr (b0_1 b0_4 b0_5:Int)(b0_6:ByteArray)(b0_7:Int):R47b->List (List Cell)
 |(_,_,a,b,c)=>[[.imm a,ic b0_1,.own 1 b,.own 7 c,ic b0_4,ic b0_5,sc b0_6,ic b0_7]]
def qxI (k:Nat)(rec:S47b->Option R47b):S47b->Option R47b
 |.e a b c d e f g i j=>
  (tg 5 (g46b k b c d e f g i j)).bind fun l=>
  tup8 l fun _ _ _ _ m n o p=>
  some (m,a,n,o,p)
def g47b (k:Nat)(a:Int)(b:Rs)(c:Int)(d e:Rs)(f g:Int)(i:By)(j:Int):Option R47b:=itS qxI k (.e a b c d e f g i j)
def P47b:S47b->R47b->Prop
 |.e a b c d e f g i j=>Fe Y47 qBH (qDr c f g i j) [pP 0,cic a] [[.imm b,ic c,.own 1 d,.own 7 e,ic f,ic g,sc i,ic j]]
theorem qFD:∀ k s r,itS qxI k s=some r->P47b s r:=okU trivial
instance {k:Nat} {a:Int} {b:Rs} {c:Int} {d e:Rs} {f g:Int} {i:By} {j:Int}:EvI (g47b k a b c d e f g i j) 47 [pP 0,cic a] [[.imm b,ic c,.own 1 d,.own 7 e,ic f,ic g,sc i,ic j]] qBH (qDr c f g i j):=eI qFD
abbrev R78b:=(Int×Int×Rs×Int×Rs×Rs)⊕(By×Rs×Int×Rs×Rs)
def qBL:R78b->ARes
 |(.inl (a,b,_,_,_,_))=>.panic (.iface 44 (.agg #[.int .i64 a,.int .i64 b]))
 |(.inr (r,_,_,_,_))=>.ret (csc r)
def qDv (b0_4 b0_5:Int)(b0_6:ByteArray)(b0_7:Int):R78b->List (List Cell)
 |(.inl (_,_,a,b,c,d))=>[[.imm a,ic b,.own 1 c,.own 7 d,ic b0_4,ic b0_5,sc b0_6,ic b0_7]]
 |(.inr (_,a,b,c,d))=>[[.imm a,ic b,.own 1 c,.own 7 d,ic b0_4,ic b0_5,sc b0_6,ic b0_7]]
def qxL (k:Nat)(rec:S78b->Option R78b):S78b->Option R78b
 |.e a b c d e f g i=>
  (tg 5 (g46b k a b c d e f g i)).bind fun j=>
  tup8 j fun l m _ _ _ n o p=>
  bif tg 8 (l != 2)then
   (tg 10 (g47b k 13 n b o p e f g i)).bind fun q=>
   tup5 q fun t u v w x=>
   some (.inl (t,u,v,b,w,x))
  else
   some (.inr (m,n,IntKind.i64.wrap (b+1),o,p))
def g78b (k:Nat)(a:Rs)(b:Int)(c d:Rs)(e f:Int)(g:By)(i:Int):Option R78b:=itS qxL k (.e a b c d e f g i)
def P78b:S78b->R78b->Prop
 |.e a b c d e f g i=>Fe Y78 qBL (qDv e f g i) [pP 0] [[.imm a,ic b,.own 1 c,.own 7 d,ic e,ic f,sc g,ic i]]
theorem qFK:∀ k s r,itS qxL k s=some r->P78b s r:=okU trivial
instance {k:Nat} {a:Rs} {b:Int} {c d:Rs} {e f:Int} {g:By} {i:Int}:EvI (g78b k a b c d e f g i) 78 [pP 0] [[.imm a,ic b,.own 1 c,.own 7 d,ic e,ic f,sc g,ic i]] qBL (qDv e f g i):=eI qFK
abbrev R75b:=(Int×Int×Rs×Int×Rs×Rs)⊕(Int×By×By×Int×Rs×Int×Rs×Rs)
def qxj:R75b->ARes
 |(.inl (a,b,_,_,_,_))=>.panic (.iface 44 (.agg #[.int .i64 a,.int .i64 b]))
 |(.inr (a,b,c,d,_,_,_,_))=>.ret (.ag [ic a,sc b,sc c,ic d])
def qyT (b0_4 b0_5:Int)(b0_6:ByteArray)(b0_7:Int):R75b->List (List Cell)
 |(.inl (_,_,a,b,c,d))=>[[.imm a,ic b,.own 1 c,.own 7 d,ic b0_4,ic b0_5,sc b0_6,ic b0_7]]
 |(.inr (_,_,_,_,a,b,c,d))=>[[.imm a,ic b,.own 1 c,.own 7 d,ic b0_4,ic b0_5,sc b0_6,ic b0_7]]
def qvc (k:Nat)(rec:S75b->Option R75b):S75b->Option R75b
 |.e a b c d e f g i j=>
  (tg 10 (g46b k b c d e f g i j)).bind fun l=>
  tup8 l fun m n o p q t u v=>
  bif tg 12 (a==8)then
   (tg 17 (g42b k (strB [33]) t c u v f g i j)).bind fun w=>
   tup4 w fun x y z a1=>
   bif x then
    rec (tg 7 (.h0 true m n o p q 0 (strB []) (strB []) 0 y c z a1 f g i j))
   else
    rec (tg 7 (.h0 (m==2) m n o p q 0 (strB []) (strB []) 0 y c z a1 f g i j))
  else
   rec (tg 7 (.h0 false m n o p q 0 (strB []) (strB []) 0 t c u v f g i j))
 |.h0 a _ _ _ _ b c d e f g i j l m n o p=>
  bif a then
   (tg 27 (g47b k 2 g i j l m n o p)).bind fun q=>
   tup5 q fun t u v w x=>
   some (.inl (t,u,v,i,w,x))
  else
   (tg 34 (g42b k (strB [33]) g i j l m n o p)).bind fun q=>
   tup4 q fun y v w x=>
   bif y then
    rec (tg 11 (rg [5] [] (.h1 3 (strB []) (strB []) b c d e f v (IntKind.i64.wrap (i+1)) w x m n o p)))
   else
    rec (tg 9 (rg [5] [] (.h1 1 (strB []) (strB []) b c d e f v i w x m n o p)))
 |.h1 a _ b c d e f g i j l m n o p q=>
  (tg 48 (g78b k i j l m n o p q)).bind fun t=>
  altC t (fun u=>
    tup6 u fun v w x y z a1=>
    some (.inl (v,w,x,y,z,a1))) (fun u=>
    tup5 u fun b1 x y z a1=>
    bif tg 52 (a==1)then
     (tg 57 (g42b k (strB [43]) x y z a1 n o p q)).bind fun c1=>
     tup4 c1 fun d1 e1 f1 g1=>
     rec (tg 5 (.h2 d1 a b1 b c d e f g e1 y f1 g1 n o p q))
    else
     rec (tg 5 (.h2 false a b1 b c d e f g x y z a1 n o p q)))
 |.h2 a b c d e f g i j l m n o p q t u=>
  bif a then
   rec (tg 4 (.h3 2 c d e f g i j l (IntKind.i64.wrap (m+1)) n o p q t u))
  else
   rec (tg 2 (.h3 b c d e f g i j l m n o p q t u))
 |.h3 a b _ c _ _ _ _ d e f g i j l m=>
  (tg 72 (g78b k d e f g i j l m)).bind fun n=>
  altC n (fun o=>
    tup6 o fun p q t u v w=>
    some (.inl (p,q,t,u,v,w))) (fun o=>
    tup5 o fun x t u v w=>
    some (.inr (a,b,x,c,t,u,v,w)))
def g75b (k:Nat)(a:Int)(b:Rs)(c:Int)(d e:Rs)(f g:Int)(i:By)(j:Int):Option R75b:=itS qvc k (.e a b c d e f g i j)
def P75b:S75b->R75b->Prop
 |.e a b c d e f g i j=>Fe Y75 qxj (qyT f g i j) [pP 0,cic a] [[.imm b,ic c,.own 1 d,.own 7 e,ic f,ic g,sc i,ic j]]
 |.h0 a b c d e f g i j l m n o p q t u v=>Fk Y75 qxj (qyT q t u v) [1,1,0,1,2] ([pP 0]++rd 3++[pL 4,pL 5]++rd 17++[cbc a]++rd 51) [(.loc 5,[ic b,sc c,ic d,ic e,ic f]),(.loc 4,[ic g,sc i,sc j,ic l]),(.par 0,[.imm m,ic n,.own 1 o,.own 7 p,ic q,ic t,sc u,ic v])]
 |.h1 a b c d e f g i j l m n o p q t=>Fk Y75 qxj (qyT o p q t) [1,1,1,1,1,2] ([pP 0]++rd 3++[pL 4,.deadv,pL 6]++rd 68) [(.loc 6,[ic a,sc b,sc c,ic d]),(.loc 4,[ic e,sc f,sc g,ic i]),(.par 0,[.imm j,ic l,.own 1 m,.own 7 n,ic o,ic p,sc q,ic t])]
 |.h2 a b c d e f g i j l m n o p q t u=>Fk Y75 qxj (qyT p q t u) [1,1,1,1,1,1,0,1,2] ([pP 0]++rd 3++[pL 4,.deadv,pL 6]++rd 51++[cbc a]++rd 16) [(.loc 6,[ic b,sc c,sc d,ic e]),(.loc 4,[ic f,sc g,sc i,ic j]),(.par 0,[.imm l,ic m,.own 1 n,.own 7 o,ic p,ic q,sc t,ic u])]
 |.h3 a b c d e f g i j l m n o p q t=>Fk Y75 qxj (qyT o p q t) [1,1,1,1,1,1,1,2] ([pP 0]++rd 3++[pL 4,.deadv,pL 6]++rd 68) [(.loc 6,[ic a,sc b,sc c,ic d]),(.loc 4,[ic e,sc f,sc g,ic i]),(.par 0,[.imm j,ic l,.own 1 m,.own 7 n,ic o,ic p,sc q,ic t])]
theorem qFJ:∀ k s r,itS qvc k s=some r->P75b s r:=okU trivial
instance {k:Nat} {a:Int} {b:Rs} {c:Int} {d e:Rs} {f g:Int} {i:By} {j:Int}:EvI (g75b k a b c d e f g i j) 75 [pP 0,cic a] [[.imm b,ic c,.own 1 d,.own 7 e,ic f,ic g,sc i,ic j]] qxj (qyT f g i j):=eI qFJ
abbrev R40b:=(Int×Int×Rs×Int×Rs×Rs)⊕(Rs×Int×Rs×Rs)
def qBE:R40b->ARes
 |(.inl (a,b,_,_,_,_))=>.panic (.iface 44 (.agg #[.int .i64 a,.int .i64 b]))
 |(.inr (_,_,_,_))=>.ret .undef
def qDo (b0_4 b0_5:Int)(b0_6:ByteArray)(b0_7:Int):R40b->List (List Cell)
 |(.inl (_,_,a,b,c,d))=>[[.imm a,ic b,.own 1 c,.own 7 d,ic b0_4,ic b0_5,sc b0_6,ic b0_7]]
 |(.inr (a,b,c,d))=>[[.imm a,ic b,.own 1 c,.own 7 d,ic b0_4,ic b0_5,sc b0_6,ic b0_7]]
def qxF (k:Nat)(rec:S40b->Option R40b):S40b->Option R40b
 |.e a b c d e f g i j=>
  (tg 6 (g42b k a b c d e f g i j)).bind fun l=>
  tup4 l fun m n o p=>
  bif tg 7 (!m)then
   (tg 9 (g47b k 13 n c o p f g i j)).bind fun q=>
   tup5 q fun t u v w x=>
   some (.inl (t,u,v,c,w,x))
  else
   some (.inr (n,IntKind.i64.wrap (c+1),o,p))
def g40b (k:Nat)(a:By)(b:Rs)(c:Int)(d e:Rs)(f g:Int)(i:By)(j:Int):Option R40b:=itS qxF k (.e a b c d e f g i j)
def P40b:S40b->R40b->Prop
 |.e a b c d e f g i j=>Fe Y40 qBE (qDo f g i j) [pP 0,csc a] [[.imm b,ic c,.own 1 d,.own 7 e,ic f,ic g,sc i,ic j]]
theorem qFy:∀ k s r,itS qxF k s=some r->P40b s r:=okU trivial
instance {k:Nat} {a:By} {b:Rs} {c:Int} {d e:Rs} {f g:Int} {i:By} {j:Int}:EvI (g40b k a b c d e f g i j) 40 [pP 0,csc a] [[.imm b,ic c,.own 1 d,.own 7 e,ic f,ic g,sc i,ic j]] qBE (qDo f g i j):=eI qFy
abbrev R41b:=(Int×Int×Rs×Int×Rs×Rs)⊕(Rs×Int×Rs×Rs)
def qvq (k:Nat)(rec:S41b->Option R41b):S41b->Option R41b
 |.e a b c d e f g i=>
  (tg 6 (g42b k (strB [83,69,81]) a b c d e f g i)).bind fun j=>
  tup4 j fun l m n o=>
  bif l then
   rec (tg 3 (.h0 ((n.length:Int)==4) m b n o e f g i))
  else
   rec (tg 3 (.h0 false m b n o e f g i))
 |.h0 a b c d e f g i j=>
  bif a then
   (tg 19 (g47b k 2 b c d e f g i j)).bind fun l=>
   tup5 l fun m n o p q=>
   some (.inl (m,n,o,c,p,q))
  else
   (tg 23 (g40b k (strB [83,69,81]) b c d e f g i j)).bind fun l=>
   altC l (fun t=>
     tup6 t fun u v w x y z=>
     some (.inl (u,v,w,x,y,z))) (fun t=>
     tup4 t fun w x y z=>
     (tg 27 (g40b k (strB [40]) w x y z f g i j)).bind fun a1=>
     altC a1 (fun b1=>
       tup6 b1 fun c1 d1 e1 f1 g1 i1=>
       some (.inl (c1,d1,e1,f1,g1,i1))) (fun b1=>
       tup4 b1 fun e1 f1 g1 i1=>
       rec (tg 11 (rg [] [(⟨⟨.slot 2,[]⟩,0,0⟩,some 4)] (.h1 [] e1 f1 g1 i1 f g i j)))))
 |.h1 a b c d e f g i j=>
  (tg 32 (g75b k (a.length:Int) b c d e f g i j)).bind fun l=>
  altC l (fun m=>
    tup6 m fun n o p q t u=>
    some (.inl (n,o,p,q,t,u))) (fun m=>
    tup8 m fun v w x y p q t u=>
    gd (tg 34 (apOk 48 4 a [[ic v,sc w,sc x,ic y]])) <|
    (tg 38 (g42b k (strB [44]) p q t u f g i j)).bind fun z=>
    tup4 z fun a1 b1 c1 d1=>
    bif tg 39 (!a1)then
     (tg 52 (g40b k (strB [41]) b1 q c1 d1 f g i j)).bind fun e1=>
     altC e1 (fun f1=>
       tup6 f1 fun g1 i1 j1 l1 m1 n1=>
       some (.inl (g1,i1,j1,l1,m1,n1))) (fun f1=>
       tup4 f1 fun j1 l1 m1 n1=>
       gd (tg 61 (apOk 24 1 m1 [[.imm (qG (a++[[ic v,sc w,sc x,ic y]]))]])) <|
       some (.inr (j1,l1,m1++[[.imm (qG (a++[[ic v,sc w,sc x,ic y]]))]],n1)))
    else
     rec (tg 11 (.h1 (a++[[ic v,sc w,sc x,ic y]]) b1 (IntKind.i64.wrap (q+1)) c1 d1 f g i j)))
def g41b (k:Nat)(a:Rs)(b:Int)(c d:Rs)(e f:Int)(g:By)(i:Int):Option R41b:=itS qvq k (.e a b c d e f g i)
def P41b:S41b->R41b->Prop
 |.e a b c d e f g i=>Fe Y41 qBE (qDo e f g i) [pP 0] [[.imm a,ic b,.own 1 c,.own 7 d,ic e,ic f,sc g,ic i]]
 |.h0 a b c d e f g i j=>Fk Y41 qBE (qDo f g i j) [0,1,2] ([pP 0]++rd 14++[cbc a]++rd 49) [(.par 0,[.imm b,ic c,.own 1 d,.own 7 e,ic f,ic g,sc i,ic j])]
 |.h1 a b c d e f g i j=>Fk Y41 qBE (qDo f g i j) [1,1,1,1,0,0,4] ([pP 0,.deadv,.c (.own 4 a)]++rd 62) [(.par 0,[.imm b,ic c,.own 1 d,.own 7 e,ic f,ic g,sc i,ic j])]
theorem qFz:∀ k s r,itS qvq k s=some r->P41b s r:=okU trivial
instance {k:Nat} {a:Rs} {b:Int} {c d:Rs} {e f:Int} {g:By} {i:Int}:EvI (g41b k a b c d e f g i) 41 [pP 0] [[.imm a,ic b,.own 1 c,.own 7 d,ic e,ic f,sc g,ic i]] qBE (qDo e f g i):=eI qFz
abbrev R122:=Int×By×Int×Int×Int×Rs
def qqW:R122->ARes
 |(a,b,c,d,e,_)=>.ret (.ag [ic a,sc b,ic c,ic d,ic e])
def qrH (b0_1 b0_2:Int):R122->List (List Cell)
 |(_,_,_,_,_,a)=>[[.imm a,ic b0_1,ic b0_2]]
def qoL (k:Nat)(rec:S122->Option R122):S122->Option R122
 |.e a b ..=>
  bif tg 12 (decide (b<(a.length:Int)))then
   ixR a (tg 21 b) fun c=>
   qaM c fun d e f g i=>
   some (d,e,f,g,i,a)
  else
   some (0,strB [],0,0,0,a)
def g122 (k:Nat)(a:Rs)(b c:Int):Option R122:=itS qoL k (.e a b c)
def P122:S122->R122->Prop
 |.e a b c=>Fe Y122 qqW (qrH b c) [pP 0] [[.imm a,ic b,ic c]]
theorem quI:∀ k s r,itS qoL k s=some r->P122 s r:=okU (And.intro @qvg trivial)
instance {k:Nat} {a:Rs} {b c:Int}:EvI (g122 k a b c) 122 [pP 0] [[.imm a,ic b,ic c]] qqW (qrH b c):=eI quI
abbrev R101:=Bool×Rs
def qBg:R101->ARes
 |(r,_)=>.ret (cbc r)
def qC0 (b0_1 b0_2:Int):R101->List (List Cell)
 |(_,a)=>[[.imm a,ic b0_1,ic b0_2]]
def qxx (k:Nat)(rec:S101->Option R101):S101->Option R101
 |.e a b c d=>
  (tg 7 (g122 k b c d)).bind fun e=>
  tup6 e fun f g _ _ _ i=>
  bif tg 10 (f==1)then
   some (g.toList==a.toList,i)
  else
   bif tg 14 (f==6)then
    some (g.toList==a.toList,i)
   else
    some (false,i)
def g101 (k:Nat)(a:By)(b:Rs)(c d:Int):Option R101:=itS qxx k (.e a b c d)
def P101:S101->R101->Prop
 |.e a b c d=>Fe Y101 qBg (qC0 c d) [pP 0,csc a] [[.imm b,ic c,ic d]]
theorem qE8:∀ k s r,itS qxx k s=some r->P101 s r:=okU trivial
instance {k:Nat} {a:By} {b:Rs} {c d:Int}:EvI (g101 k a b c d) 101 [pP 0,csc a] [[.imm b,ic c,ic d]] qBg (qC0 c d):=eI qE8
abbrev R158:=(Int×Int×Rs×Int)⊕(By×Rs×Int)
def qBx:R158->ARes
 |(.inl (a,b,_,_))=>.panic (.iface 122 (.agg #[.int .i64 a,.int .i64 b]))
 |(.inr (r,_,_))=>.ret (csc r)
def qDh (b0_2:Int):R158->List (List Cell)
 |(.inl (_,_,a,b))=>[[.imm a,ic b,ic b0_2]]
 |(.inr (_,a,b))=>[[.imm a,ic b,ic b0_2]]
def qxA (k:Nat)(rec:S158->Option R158):S158->Option R158
 |.e a b c=>
  (tg 5 (g122 k a b c)).bind fun d=>
  tup6 d fun e f _ _ g i=>
  bif tg 8 (e != 2)then
   some (.inl (g,13,i,b))
  else
   some (.inr (f,i,IntKind.i64.wrap (b+1)))
def g158 (k:Nat)(a:Rs)(b c:Int):Option R158:=itS qxA k (.e a b c)
def P158:S158->R158->Prop
 |.e a b c=>Fe Y158 qBx (qDh c) [pP 0] [[.imm a,ic b,ic c]]
theorem qFp:∀ k s r,itS qxA k s=some r->P158 s r:=okU trivial
instance {k:Nat} {a:Rs} {b c:Int}:EvI (g158 k a b c) 158 [pP 0] [[.imm a,ic b,ic c]] qBx (qDh c):=eI qFp
abbrev R154:=(Int×Int×Rs×Int)⊕(Rs×Int)
def qBv:R154->ARes
 |(.inl (a,b,_,_))=>.panic (.iface 122 (.agg #[.int .i64 a,.int .i64 b]))
 |(.inr (_,_))=>.ret .undef
def qDf (b0_2:Int):R154->List (List Cell)
 |(.inl (_,_,a,b))=>[[.imm a,ic b,ic b0_2]]
 |(.inr (a,b))=>[[.imm a,ic b,ic b0_2]]
def qxz (k:Nat)(rec:S154->Option R154):S154->Option R154
 |.e a b c d=>
  (tg 6 (g101 k a b c d)).bind fun e=>
  tup2 e fun f g=>
  bif tg 7 (!f)then
   (tg 9 (g122 k g c d)).bind fun i=>
   tup6 i fun _ _ _ _ j l=>
   some (.inl (j,13,l,c))
  else
   some (.inr (g,IntKind.i64.wrap (c+1)))
def g154 (k:Nat)(a:By)(b:Rs)(c d:Int):Option R154:=itS qxz k (.e a b c d)
def P154:S154->R154->Prop
 |.e a b c d=>Fe Y154 qBv (qDf d) [pP 0,csc a] [[.imm b,ic c,ic d]]
theorem qFo:∀ k s r,itS qxz k s=some r->P154 s r:=okU trivial
instance {k:Nat} {a:By} {b:Rs} {c d:Int}:EvI (g154 k a b c d) 154 [pP 0,csc a] [[.imm b,ic c,ic d]] qBv (qDf d):=eI qFo
abbrev R153:=(Int×Int×Rs×Int)⊕(By×By×Rs×Int)
def qBu:R153->ARes
 |(.inl (a,b,_,_))=>.panic (.iface 122 (.agg #[.int .i64 a,.int .i64 b]))
 |(.inr (a,b,_,_))=>.ret ⟨.tup [false,false],[[sc a],[sc b]]⟩
def qDe (b0_2:Int):R153->List (List Cell)
 |(.inl (_,_,a,b))=>[[.imm a,ic b,ic b0_2]]
 |(.inr (_,_,a,b))=>[[.imm a,ic b,ic b0_2]]
def qvz (k:Nat)(rec:S153->Option R153):S153->Option R153
 |.e a b c=>
  (tg 6 (g158 k a b c)).bind fun d=>
  altC d (fun e=>
    tup4 e fun f g i j=>
    some (.inl (f,g,i,j))) (fun e=>
    tup3 e fun l i j=>
    (tg 8 (g154 k (strB [46]) i j c)).bind fun m=>
    altC m (fun n=>
      tup4 n fun o p q t=>
      some (.inl (o,p,q,t))) (fun n=>
      tup2 n fun q t=>
      (tg 10 (g101 k (strB [84,73,77,69]) q t c)).bind fun u=>
      tup2 u fun v w=>
      bif v then
       some (.inr (l,strB [84,73,77,69],w,IntKind.i64.wrap (t+1)))
      else
       (tg 21 (g158 k w t c)).bind fun x=>
       altC x (fun y=>
         tup4 y fun z a1 b1 c1=>
         some (.inl (z,a1,b1,c1))) (fun y=>
         tup3 y fun d1 b1 c1=>
         some (.inr (l,d1,b1,c1)))))
def g153 (k:Nat)(a:Rs)(b c:Int):Option R153:=itS qvz k (.e a b c)
def P153:S153->R153->Prop
 |.e a b c=>Fe Y153 qBu (qDe c) [pP 0] [[.imm a,ic b,ic c]]
theorem qFn:∀ k s r,itS qvz k s=some r->P153 s r:=okU trivial
instance {k:Nat} {a:Rs} {b c:Int}:EvI (g153 k a b c) 153 [pP 0] [[.imm a,ic b,ic c]] qBu (qDe c):=eI qFn
abbrev R136:=(Int×Int×Rs×Int×Int)⊕(Int×Rs×Int×Int)
def qBo:R136->ARes
 |(.inl (a,b,_,_,_))=>.panic (.iface 122 (.agg #[.int .i64 a,.int .i64 b]))
 |(.inr (r,_,_,_))=>.ret (cic r)
def qC8:R136->List (List Cell)
 |(.inl (_,_,a,b,c))=>[[.imm a,ic b,ic c]]
 |(.inr (_,a,b,c))=>[[.imm a,ic b,ic c]]
def qxy (k:Nat)(rec:S136->Option R136):S136->Option R136
 |.e a b c=>
  (tg 5 (g122 k a b c)).bind fun d=>
  tup6 d fun _ _ _ _ e f=>
  bif tg 10 (c==30)then
   some (.inl (e,14,f,b,c))
  else
   some (.inr (e,f,IntKind.i64.wrap (b+1),IntKind.i64.wrap (c+1)))
def g136 (k:Nat)(a:Rs)(b c:Int):Option R136:=itS qxy k (.e a b c)
def P136:S136->R136->Prop
 |.e a b c=>Fe Y136 qBo qC8 [pP 0] [[.imm a,ic b,ic c]]
theorem qFj:∀ k s r,itS qxy k s=some r->P136 s r:=okU trivial
instance {k:Nat} {a:Rs} {b c:Int}:EvI (g136 k a b c) 136 [pP 0] [[.imm a,ic b,ic c]] qBo qC8:=eI qFj
abbrev R159:=(Int×Int×Rs×Int)⊕(Int×Int×Int×By×By×Int×Rs×Int)
def qyH:R159->ARes
 |(.inl (a,b,_,_))=>.panic (.iface 122 (.agg #[.int .i64 a,.int .i64 b]))
 |(.inr (a,b,c,d,e,f,_,_))=>.ret (.ag [ic a,.nil,ic b,ic c,sc d,sc e,ic f])
def qAo (b0_2:Int):R159->List (List Cell)
 |(.inl (_,_,a,b))=>[[.imm a,ic b,ic b0_2]]
 |(.inr (_,_,_,_,_,_,a,b))=>[[.imm a,ic b,ic b0_2]]
def qve (k:Nat)(rec:S159->Option R159):S159->Option R159
 |.e a b c d e f g i=>rec (tg 7 (.h0 (strB [67,79,85,78,84]) (strB [70,73,82,83,84]) (strB [76,65,83,84]) (strB [83,85,77]) (strB [77,73,78]) (strB [77,65,88]) (strB [77,69,65,78]) 0 0 0 0 (strB []) (strB []) 0 a b c d e f g i))
 |.h0 a b c d e f g i j l m n o p q t u v w x y z=>
  bif tg 10 (decide (i<7))then
   aixS [a,b,c,d,e,f,g] (tg 12 i) fun a1=>
   bif tg 16 (!(a1.toList==t.toList))then
    rec (tg 16 (.h0 a b c d e f g (IntKind.i64.wrap (i+1)) j l m n o p q t u v w x y z))
   else
    (tg 25 (g154 k (strB [40]) x (IntKind.i64.wrap (y+1)) z)).bind fun b1=>
    altC b1 (fun c1=>
      tup4 c1 fun d1 e1 f1 g1=>
      some (.inl (d1,e1,f1,g1))) (fun c1=>
      tup2 c1 fun f1 g1=>
      bif tg 32 (i==0)then
       (tg 34 (g158 k f1 g1 z)).bind fun i1=>
       altC i1 (fun j1=>
         tup4 j1 fun l1 m1 n1 o1=>
         some (.inl (l1,m1,n1,o1))) (fun j1=>
         tup3 j1 fun p1 n1 o1=>
         rec (tg 26 (rg [3] [] (.h1 (IntKind.i64.wrap ((25:Int)+i)) 0 0 p1 (strB []) w j l m n o p n1 o1 z))))
      else
       (tg 38 (g153 k f1 g1 z)).bind fun i1=>
       altC i1 (fun j1=>
         tup4 j1 fun l1 m1 n1 o1=>
         some (.inl (l1,m1,n1,o1))) (fun j1=>
         tup4 j1 fun q1 t1 n1 o1=>
         rec (tg 26 (rg [3] [] (.h1 (IntKind.i64.wrap ((25:Int)+i)) 0 0 q1 t1 w j l m n o p n1 o1 z)))))
  else
   some (.inl (w,13,x,y))
 |.h1 a b c d e f _ _ _ _ _ _ g i j=>
  (tg 44 (g154 k (strB [41]) g i j)).bind fun l=>
  altC l (fun m=>
    tup4 m fun n o p q=>
    some (.inl (n,o,p,q))) (fun m=>
    tup2 m fun p q=>
    some (.inr (a,b,c,d,e,f,p,q)))
def g159 (k:Nat)(a:Int)(b:By)(c d e:Int)(f:Rs)(g i:Int):Option R159:=itS qve k (.e a b c d e f g i)
def P159:S159->R159->Prop
 |.e a b c d e f g i=>Fe Y159 qyH (qAo i) [pP 0,.ag [ic a,sc b,ic c,ic d,ic e]] [[.imm f,ic g,ic i]]
 |.h0 a b c d e f g i j l m n o p q t u v w x y z=>Fk Y159 qyH (qAo z) [1,0,1,0,4] ([pP 0,.deadv,.deadv,pL 3,pL 4]++rd 3++[.ag [sc a,sc b,sc c,sc d,sc e,sc f,sc g],cic i]++rd 41) [(.loc 4,[ic j,.nil,ic l,ic m,sc n,sc o,ic p]),(.loc 3,[ic q,sc t,ic u,ic v,ic w]),(.par 0,[.imm x,ic y,ic z])]
 |.h1 a b c d e f g i j l m n o p q=>Fk Y159 qyH (qAo q) [1,0,1,0,0,1,1,0,0,1,1,1,1,1,1,2] ([pP 0]++rd 3++[pL 4,.deadv,.deadv,pL 7]++rd 43) [(.loc 7,[ic a,.nil,ic b,ic c,sc d,sc e,ic f]),(.loc 4,[ic g,.nil,ic i,ic j,sc l,sc m,ic n]),(.par 0,[.imm o,ic p,ic q])]
theorem qFq:∀ k s r,itS qve k s=some r->P159 s r:=okU trivial
instance {k:Nat} {a:Int} {b:By} {c d e:Int} {f:Rs} {g i:Int}:EvI (g159 k a b c d e f g i) 159 [pP 0,.ag [ic a,sc b,ic c,ic d,ic e]] [[.imm f,ic g,ic i]] qyH (qAo i):=eI qFq
abbrev R144:=Int×Rs
def qyG:R144->ARes
 |(r,_)=>.ret (cic r)
def qAn (b0_1 b0_2:Int):R144->List (List Cell)
 |(_,a)=>[[.imm a,ic b0_1,ic b0_2]]
def qvy (k:Nat)(rec:S144->Option R144):S144->Option R144
 |.e a b c d e=>
  (tg 11 (g122 k c d e)).bind fun f=>
  tup6 f fun g i j l m n=>
  bif tg 14 (g==6)then
   (tg 16 (YZ a)).bind fun o=>
   rec (tg 12 (.h0 b o (o.length:Int) 0 g i j l m n d e))
  else
   rec (tg 9 (rg [7] [] (.h1 n d e)))
 |.h0 a b c d e f g i j l m n=>
  bif tg 19 (decide (d<c))then
   ixR b (tg 21 d) fun o=>
   un_s o fun p=>
   bif tg 26 (p.toList==f.toList)then
    some (IntKind.i64.wrap (a+d),l)
   else
    rec (tg 16 (.h0 a b c (IntKind.i64.wrap (d+1)) e f g i j l m n))
  else
   rec (tg 6 (rg [7] [] (.h1 l m n)))
 |.h1 a ..=>some (0,a)
def g144 (k:Nat)(a:By)(b:Int)(c:Rs)(d e:Int):Option R144:=itS qvy k (.e a b c d e)
def P144:S144->R144->Prop
 |.e a b c d e=>Fe Y144 qyG (qAn d e) [pP 0,csc a,cic b] [[.imm c,ic d,ic e]]
 |.h0 a b c d e f g i j l m n=>Fk Y144 qyG (qAn m n) [1,1,0,1,0,1,0,4] ([.deadv,.deadv,cic a]++rd 4++[pL 7]++rd 8++[cm b,cic c,cic d]++rd 12) [(.loc 7,[ic e,sc f,ic g,ic i,ic j]),(.par 0,[.imm l,ic m,ic n])]
 |.h1 a b c=>Fk Y144 qyG (qAn b c) [1,1,1,2] (rd 31) [(.par 0,[.imm a,ic b,ic c])]
theorem qFl:∀ k s r,itS qvy k s=some r->P144 s r:=okU (And.intro @qCO trivial)
instance {k:Nat} {a:By} {b:Int} {c:Rs} {d e:Int}:EvI (g144 k a b c d e) 144 [pP 0,csc a,cic b] [[.imm c,ic d,ic e]] qyG (qAn d e):=eI qFl
end
end Ab
end Go.Proofs.YtgfbbmjoflehlaaGreatDoor
