/-
  Functions' ways, printed by a program: what each computes, and that this is what the interpreter computes.
-/
import Derived.Test.YtnnhdcidgfjfpaaGreatDoorFQq
import Derived.KernelRfl
set_option linter.all false
set_option maxRecDepth 10000
set_option maxHeartbeats 8000000
namespace Go.Proofs.YtnnhdcidgfjfpaaGreatDoor
namespace Ab
variable [Glob]
inductive S91 where
 |e_91 (a:Int)(b:Rs)(c d e f:Int)
 |h0_91 (a:Int)(b:Bool)(c d e:Int)(f g:By)(i:Int)(j:Rs)(l m n o:Int)
 |h1_91 (a b:Int)(c:Rs)(d e:Int)(f g:By)(i j l m:Int)(n o:By)(p:Int)(q:Rs)(t u v w:Int)
 |h2_91 (a b:Int)(c:Rs)(d e:Int)(f g:By)(i j l m:Int)(n o:By)(p:Int)(q:Rs)(t u v w:Int)
 |h3_91 (a:Int)(b:Rs)(c d e f g:Int)(i:Rs)(j l:Int)(m n:By)(o p q t:Int)(u v:By)(w:Int)(x:Rs)(y z a1 b1:Int)
 |h4_91 (a:Int)(b:Rs)(c d e f g:Int)(i:Rs)(j l:Int)(m n:By)(o p q t:Int)(u v:By)(w:Int)(x:Rs)(y z a1 b1:Int)
 |h5_91 (a:Int)(b:Rs)(c d e f g:Int)(i:Rs)(j l:Int)(m n:By)(o p q t:Int)(u v:By)(w:Int)(x:Rs)(y z a1 b1:Int)
 |h6_91 (a:Int)(b:Bool)(c:Int)(d:Rs)(e f:Int)(g i:By)(j l m n:Int)(o p:By)(q:Int)(t:Rs)(u v w x:Int)
 |h7_91 (a:Int)(b:Rs)(c d e f g:Int)(i:Rs)(j l:Int)(m n:By)(o p q t:Int)(u v:By)(w:Int)(x:Rs)(y z a1 b1:Int)
 |e_119 (a:Int)(b:Rs)(c d e f:Int)
 |h0_119 (a:Int)(b:By)(c d e f:Int)(g i:By)(j:Int)(l:Rs)(m n o p:Int)
 |h1_119 (a:Int)(b:Rs)(c d:Int)(e f:By)(g:Int)(i:Rs)(j l m n:Int)
 |h2_119 (a:Int)(b:Rs)(c d:Int)(e f:By)(g:Int)(i:Rs)(j l m n:Int)
 |h3_119 (a:Int)(b:Rs)(c d:Int)(e f:By)(g:Int)(i:Rs)(j l m n:Int)
 |e_120 (a:Rs)(b c d e:Int)
 |h0_120 (a:Int)(b:Rs)(c d:Int)(e f:By)(g i j l:Int)(m n:By)(o:Int)(p:Rs)(q t u v:Int)
 |h1_120 (a:Int)(b:Rs)(c d:Int)(e f:By)(g i j l:Int)(m n:By)(o:Int)(p:Rs)(q t u v:Int)
 |h2_120 (a:Bool)(b c d:Int)(e f:By)(g i j l:Int)(m n:By)(o:Int)(p:Rs)(q t u v:Int)
 |h3_120 (a b c:Int)(d e:By)(f g i j:Int)(l m:By)(n:Int)(o:Rs)(p q t u:Int)
 |h4_120 (a:Bool)(b c d:Int)(e f:By)(g i j l:Int)(m n:By)(o:Int)(p:Rs)(q t u v:Int)
 |h5_120 (a b c:Int)(d e:By)(f g i j:Int)(l m:By)(n:Int)(o:Rs)(p q t u:Int)
 |h6_120 (a:Int)(b:Rs)(c d:Int)(e f:By)(g i j l:Int)(m n:By)(o:Int)(p:Rs)(q t u v:Int)
abbrev qxC:=(Int×Int×Int×By×By×Int×Rs×Int×Int×Int×Int)⊕(Int×Rs×Int×Int×By×By×Int×Rs×Int×Int×Int×Int)⊕(Int×Rs×Int×Int×By×By×Int×Rs×Int×Int×Int×Int)
abbrev qxa:=(Int×Rs×Int×Int×By×By×Int×Rs×Int×Int×Int×Int)⊕(Int×Rs×Int×Int×By×By×Int×Rs×Int×Int×Int×Int)
abbrev qxb:=Int×Rs×Int×Int×By×By×Int×Rs×Int×Int×Int×Int
abbrev R91:=qxC⊕qxa⊕qxb
noncomputable def qxf (o:Option R91):Option qxC:=o.bind fun|(.inl x)=>some x|_=>none
theorem qAQ {o:Option R91}{v:qxC}(h:qxf o=some v):o=some (.inl v):=by
 cases o with
 |none=>cases h
 |some r=>
  unfold qxf at h;simp only[ae]at h;split at h
  . injection h with h;rw[h]
  . cases h
noncomputable def qyx (o:Option R91):Option qxa:=o.bind fun|(.inr (.inl x))=>some x|_=>none
theorem qCo {o:Option R91}{v:qxa}(h:qyx o=some v):o=some (.inr (.inl v)):=by
 cases o with
 |none=>cases h
 |some r=>
  unfold qyx at h;simp only[ae]at h;split at h
  . injection h with h;rw[h]
  . cases h
noncomputable def qyy (o:Option R91):Option qxb:=o.bind fun|(.inr (.inr x))=>some x|_=>none
theorem qCp {o:Option R91}{v:qxb}(h:qyy o=some v):o=some (.inr (.inr v)):=by
 cases o with
 |none=>cases h
 |some r=>
  unfold qyy at h;simp only[ae]at h;split at h
  . injection h with h;rw[h]
  . cases h
inductive S48 where
 |e (a:Rs)(b:Int)
 |h0 (a:Rs)(b:Int)(c:Bool)(d e f:Int)(g i:By)(j:Int)
 |h1 (a b c d:Int)(e:Rs)(f g:Int)(i j:By)(l:Int)
 |h2 (a:Bool)(b:Int)(c:Rs)(d e:Int)(f g:By)(i:Int)(j:Rs)(l m n o p q t:Int)(u v:By)(w:Int)
 |h3 (a:Bool)(b:Int)(c:Rs)(d e:Int)(f g:By)(i:Int)(j:Rs)(l m n o p q t:Int)(u v:By)(w:Int)
 |h4 (a b c d:Int)(e:Rs)(f g:Int)(i j:By)(l:Int)
 |h5 (a b c d:Int)(e:Rs)(f g:Int)(i j:By)(l:Int)
abbrev R48:=Int×Rs×Int×Int×By×By×Int×Int×Int×Int
inductive S49 where
 |e (a:Int)(b:Rs)(c d:Int)(e f:By)(g:Int)
abbrev R49:=Rs
inductive S24 where
 |e (a:Rs)(b c d e:Int)(f g:Rs)(i j:Int)(l:By)(m:Int)
 |h0 (a:Bool)(b:Rs)(c d e f:Int)(g i:Rs)(j l:Int)(m:By)(n:Int)
abbrev R24:=Rs×Int×Int×Int×Rs×Rs
inductive S25 where
 |e (a:Rs)(b c d e:Int)(f g:Rs)(i j:Int)(l:By)(m:Int)
 |h0 (a:Rs)(b c:Int)(d:Rs)(e f g i:Int)(j l:Rs)(m n:Int)(o:By)(p:Int)
 |h1 (a:Int)(b:Rs)(c d:Int)(e:Bool)(f:Rs)(g i j l:Int)(m n:Rs)(o p:Int)(q:By)(t:Int)
 |h2 (a:Rs)(b c d e:Int)(f g:Rs)(i j:Int)(l:By)(m:Int)
 |h3 (a:Rs)(b c:Int)(d:Rs)(e f g i:Int)(j l:Rs)(m n:Int)(o:By)(p:Int)
 |h4 (a:Bool)(b:Rs)(c d e f:Int)(g i:Rs)(j l:Int)(m:By)(n:Int)
 |h5 (a:Rs)(b c d e:Int)(f g:Rs)(i j:Int)(l:By)(m:Int)
 |h6 (a:Bool)(b:Rs)(c d e f:Int)(g i:Rs)(j l:Int)(m:By)(n:Int)
 |h7 (a:Rs)(b c d e:Int)(f g:Rs)(i j:Int)(l:By)(m:Int)
abbrev R25:=Rs×Int×Int×Int×Rs×Rs×Int×Int×By×Int
inductive S52 where
 |e (a:Int)(b:Rs)(c d:Int)(e f:By)(g:Int)
 |h0 (a b c d:Int)(e:Rs)(f g:Int)(i j:By)(l:Int)
abbrev R52:=Int
inductive S27 where
 |e (a b:Rs)(c d:Int)(e:By)(f:Int)
 |h0 (a b c:Int)(d e:Rs)(f g:Int)(i:By)(j:Int)
 |h1 (a b c:Int)(d e:Rs)(f g:Int)(i:By)(j:Int)
abbrev R27:=Int
inductive S8 where
 |e (a:By)
 |h0 (a b:Int)(c d:Rs)(e f:Int)(g:By)(i:Int)
 |h1 (a:Rs)(b c d e:Int)(f g:Rs)(i j:Int)(l:By)(m n o:Int)(p:By)(q:Int)
 |h2 (a:Rs)(b c d e:Int)(f g:Rs)(i j:Int)(l:By)(m n o:Int)(p:By)(q:Int)
 |h3 (a:Bool)(b:Rs)(c d e f:Int)(g i:Rs)(j l:Int)(m:By)(n o p:Int)(q:By)(t:Int)
 |h4 (a:Bool)(b:Rs)(c d e f:Int)(g i:Rs)(j l:Int)(m:By)(n o p:Int)(q:By)(t:Int)
 |h5 (a:Rs)(b c d e:Int)(f g:Rs)(i j:Int)(l:By)(m n o:Int)(p:By)(q:Int)
 |h6 (a b:Int)(c d:Rs)(e f:Int)(g:By)(i:Int)
 |h7 (a b:Int)(c d:Rs)(e f:Int)(g:By)(i:Int)
 |h8 (a b:Int)(c d:Rs)(e f:Int)(g:By)(i:Int)
abbrev R8:=Rs×Rs×Int×Int×By×Int×Int×Int
inductive S72 where
 |e (a:Rs)
 |h0 (a b:Rs)(c d:Int)
 |h1 (a:Rs)(b:Int)(c:By)(d:Int)(e:Rs)(f g:Int)
abbrev R72:=Bool
inductive S37 where
 |e (a b:Rs)
 |h0 (a b c:Bool)(d e:Rs)(f g:Int)(i j:Rs)
 |h1 (a b c:Bool)(d e:Rs)(f g:Int)(i j:Rs)
 |h2 (a b:Bool)(c d:Rs)(e f:Int)(g i:Rs)
 |h3 (a b:Bool)(c d e:Rs)(f g:Int)(i:Rs)(j l:Int)(m n:Rs)
 |h4 (a b:Bool)
 |h5 (a b:Bool)(c d e:Rs)(f g:Int)(i:Rs)(j l:Int)(m n:Rs)
 |h6 (a b:Bool)(c d:Rs)(e f:Int)(g i:Rs)
abbrev R37:=Int
inductive S137 where
 |e (a b:Int)
 |h0 (a b c d:Int)
 |h1 (a b c:Int)(d:By)
abbrev R137:=By
inductive S109 where
 |e (a:Int)(b:Rs)(c d:Int)(e f:By)(g:Int)
 |h0 (a:Int)(b c d e:Bool)(f:Int)(g:Rs)(i j:Int)(l m:By)(n:Int)
 |h1 (a:Int)(b c d:Bool)(e:Int)(f:Rs)(g i:Int)(j l:By)(m:Int)
 |h2 (a:Int)(b c d e:Bool)(f:Int)(g:Rs)(i j:Int)(l m:By)(n:Int)
 |h3 (a:Bool)(b:Int)(c:Rs)(d e:Int)(f g:By)(i:Int)
 |h4 (a:Int)(b c d:Bool)(e:Int)(f:Rs)(g i:Int)(j l:By)(m:Int)
 |h5 (a b c:Int)(d:Rs)(e f:Int)(g i:By)(j:Int)
 |h6 (a:Int)(b c:Bool)(d:Int)(e:Rs)(f g:Int)(i j:By)(l:Int)
abbrev R109:=Bool
inductive S73 where
 |e (a b:Rs)(c d:Int)(e:By)(f:Int)
 |h0 (a:Bool)(b:Rs)(c d:Int)(e f:Rs)(g i:Int)(j:By)(l:Int)
 |h1 (a:Bool)(b:Rs)(c d:Int)(e:Rs)(f g:Int)(i j:Rs)(l m:Int)(n:By)(o:Int)
 |h2 (a:Bool)(b c:Int)(d e:Rs)(f g:Int)(i:By)(j:Int)
 |h3 (a:Bool)(b:Rs)(c d:Int)(e:Rs)(f g:Int)(i j:Rs)(l m:Int)(n:By)(o:Int)
 |h4 (a:Bool)(b c:Int)(d e:Rs)(f g:Int)(i:By)(j:Int)
abbrev R73:=Bool
inductive S110 where
 |e (a:Int)
 |h0 (a:Int)(b:Bool)
 |h1 (a:Int)(b:Bool)
 |h2 (a:Int)(b:Bool)
abbrev R110:=Int
inductive S112 where
 |e (a:Int)(b:Rs)(c d:Int)(e f:By)(g:Int)
abbrev R112:=By
inductive S75 where
 |e (a:Int)(b:Rs)(c d:Int)(e f:By)(g:Int)
 |h0 (a:Int)(b:Rs)(c d e f:Int)(g:Rs)(i j:Int)(l m:By)(n:Int)
 |h1 (a:Int)(b:Rs)(c d:Int)(e:By)(f g i j l:Int)(m:Rs)(n o:Int)(p q:By)(t:Int)
 |h2 (a:Int)(b:Rs)(c d:Int)(e:By)(f g i j:Int)(l:Bool)(m:Int)(n:Rs)(o p:Int)(q t:By)(u:Int)
 |h3 (a:Int)(b:Rs)(c d:Int)(e:By)(f g i j l:Int)(m:Rs)(n o:Int)(p q:By)(t:Int)
 |h4 (a:Int)(b:Rs)(c:Int)(d:By)(e f g i:Int)(j:Rs)(l m:Int)(n o:By)(p:Int)
abbrev R75:=By×Int
inductive S74 where
 |e (a:Rs)
 |h0 (a:By)(b:Rs)(c d:Int)
 |h1 (a:By)(b:Rs)(c d e:Int)(f g:By)(i:Int)
 |h2 (a:By)(b:Rs)(c d e:Int)(f g:By)(i:Int)
 |h3 (a:By)(b:Rs)(c d e:Int)(f g:By)(i:Int)
abbrev R74:=By
inductive S38 where
 |e (a b:Rs)(c d:Int)(e:By)(f:Int)
 |h0 (a:Bool)(b c:Rs)(d e:Int)(f:By)(g:Int)
 |h1 (a:By)(b:Rs)(c d:Int)(e f:Rs)(g i:Int)(j:By)(l:Int)
 |h2 (a:By)(b c:Rs)(d e:Int)(f g:Rs)(i j:Int)(l:By)(m:Int)
 |h3 (a:By)(b c d:Int)(e f:Rs)(g i:Int)(j:By)(l:Int)
 |h4 (a:By)(b c:Int)(d:By)(e f g:Int)(i:Bool)(j l:Rs)(m n:Int)(o:By)(p:Int)
 |h5 (a:By)(b:Int)
 |h6 (a:By)(b c:Int)(d:By)(e f g:Int)(i j:Rs)(l m:Int)(n:By)(o:Int)
abbrev R38:=By×Int
inductive S77 where
 |e (a b:Rs)(c:By)
 |h0 (a:By)(b:Rs)(c d:Int)
abbrev R77:=Int
attribute [local irreducible] cond gd ixR sxI aixS Option.bind
noncomputable section
def qi7:qxC->ARes
 |(.inl (a,b,c,d,e,f,_,_,_,_,_))=>.ret (.ag [ic a,.nil,ic b,ic c,sc d,sc e,ic f])
 |(.inr (.inl (a,b,c,d,e,f,g,_,_,_,_,_)))=>.ret (.ag [ic a,.own 7 b,ic c,ic d,sc e,sc f,ic g])
 |(.inr (.inr (a,b,c,d,e,f,g,_,_,_,_,_)))=>.ret (.ag [ic a,.imm b,ic c,ic d,sc e,sc f,ic g])
def bx91:qxC->List (List Cell)
 |(.inl (_,_,_,_,_,_,a,b,c,d,e))=>[[.imm a,ic b,ic c,ic d,ic e]]
 |(.inr (.inl (_,_,_,_,_,_,_,a,b,c,d,e)))=>[[.imm a,ic b,ic c,ic d,ic e]]
 |(.inr (.inr (_,_,_,_,_,_,_,a,b,c,d,e)))=>[[.imm a,ic b,ic c,ic d,ic e]]
def rs91:R91->ARes
 |(.inl x)=>qi7 x
 |_=>.panic .nilIface
def bs91:R91->List (List Cell)
 |(.inl x)=>bx91 x
 |_=>[]
def qDn:qxa->ARes
 |(.inl (a,b,c,d,e,f,g,_,_,_,_,_))=>.ret (.ag [ic a,.own 7 b,ic c,ic d,sc e,sc f,ic g])
 |(.inr (a,b,c,d,e,f,g,_,_,_,_,_))=>.ret (.ag [ic a,.imm b,ic c,ic d,sc e,sc f,ic g])
def qEr:qxa->List (List Cell)
 |(.inl (_,_,_,_,_,_,_,a,b,c,d,e))=>[[.imm a,ic b,ic c,ic d,ic e]]
 |(.inr (_,_,_,_,_,_,_,a,b,c,d,e))=>[[.imm a,ic b,ic c,ic d,ic e]]
def qCh:R91->ARes
 |(.inr (.inl x))=>qDn x
 |_=>.panic .nilIface
def qBq:R91->List (List Cell)
 |(.inr (.inl x))=>qEr x
 |_=>[]
def qDo:qxb->ARes
 |(a,b,c,d,e,f,g,_,_,_,_,_)=>.ret (.ag [ic a,.imm b,ic c,ic d,sc e,sc f,ic g])
def qEs:qxb->List (List Cell)
 |(_,_,_,_,_,_,_,a,b,c,d,e)=>[[.imm a,ic b,ic c,ic d,ic e]]
def qzq:R91->ARes
 |(.inr (.inr x))=>qDo x
 |_=>.panic .nilIface
def qyZ:R91->List (List Cell)
 |(.inr (.inr x))=>qEs x
 |_=>[]
noncomputable def zX (k:Nat)(rec:S91->Option R91):S91->Option R91
 |.e_91 a b c d e f=>
  bif tg 16 (e != 0)then
   some (.inl (.inl (0,0,0,strB [],strB [],0,b,c,d,e,f)))
  else
   bif tg 19 (a==3)then
    rec (tg 10 (.h0_91 a true 0 0 0 (strB []) (strB []) 0 b c d e f))
   else
    rec (tg 10 (.h0_91 a (a==7) 0 0 0 (strB []) (strB []) 0 b c d e f))
 |.h0_91 a b c d e f g i j l m n o=>
  bif b then
   (tg 26 (qyx (rec (.e_119 a j l m n o)))).bind λp=>
   altC p (λq=>
     zu q λt u v w x y z h s c1 O P=>
     some (.inl (.inr (.inl (t,u,v,w,x,y,z,h,s,c1,O,P))))) (λq=>
     zu q λt u v w x y z h s c1 O P=>
     some (.inl (.inr (.inr (t,u,v,w,x,y,z,h,s,c1,O,P)))))
  else
   bif tg 28 (a==8)then
    (tg 30 (qyy (rec (.e_120 j l m n o)))).bind λR=>
    zu R λt u v w x y z h s c1 O P=>
    some (.inl (.inr (.inr (t,u,v,w,x,y,z,h,s,c1,O,P))))
   else
    (tg 34 (qxf (rec (.e_91 (wZ (a+1)) j l m n o)))).bind λR=>
    altC R (λN=>
      qoG N λK J L M A B C D t1 r E=>
      rec (tg 12 (rg [] [(⟨⟨.loc 5,[]⟩,0,1⟩,some 7)] (.h1_91 a K [] J L M A B c d e f g i C D t1 r E)))) (λw1=>altC w1 (λN=>
      zu N λK F J L M A B C D t1 r E=>
      rec (tg 12 (.h1_91 a K F J L M A B c d e f g i C D t1 r E))) (λN=>
      zu N λK F J L M A B C D t1 r E=>
      rec (tg 12 (.h2_91 a K F J L M A B c d e f g i C D t1 r E))))
 |.h1_91 a b c d e f g i j l m n o p q t u v w=>
  bif tg 39 (v==0)then
   (tg 42 (g111 k a)).bind λx=>
   tup2 x λy z=>
   rec (tg 16 (.h3_91 a y z 0 (y.length:Int) 0 b c d e f g i j l m n o p q t u v w))
  else
   some (.inl (.inr (.inr (b,qG c,d,e,f,g,i,q,t,u,v,w))))
 |.h2_91 a b c d e f g i j l m n o p q t u v w=>
  bif tg 39 (v==0)then
   (tg 42 (g111 k a)).bind λx=>
   tup2 x λy z=>
   rec (tg 16 (.h4_91 a y z 0 (y.length:Int) 0 b c d e f g i j l m n o p q t u v w))
  else
   some (.inl (.inr (.inr (b,c,d,e,f,g,i,q,t,u,v,w))))
 |.h3_91 a b c d e f g i j l m n o p q t u v w x y z h s=>
  bif tg 48 (decide (f<e))then
   ixR b (tg 50 (tg 3 f)) λc1=>
   un_s c1 λO=>
   (tg 54 (g23c k O x y z h s)).bind λP=>
   tup2 P λR N=>
   bif R then
    rec (tg 15 (.h5_91 a b c (wZ (c+f)) e f g i j l m n o p q t u v w N y z h s))
   else
    rec (tg 15 (.h5_91 a b c d e f g i j l m n o p q t u v w N y z h s))
  else
   bif tg 60 (d==0)then
    some (.inl (.inr (.inr (g,qG i,j,l,m,n,o,x,y,z,h,s))))
   else
    (tg 63 (g47c k x y z h s)).bind λK=>
    tup6 K λ_ _ _ _ J L=>
    (tg 77 (qxf (rec (.e_91 (wZ (a+1)) L (wZ (y+1)) z h s)))).bind λM=>
    altC M (λA=>
      qoG A λB C D t1 r E w1 F G H I=>
      rec (tg 19 (.h6_91 a (a==4) d [[ic g,.imm (qG i),ic j,ic l,sc m,sc n,ic o],[ic B,.nil,ic C,ic D,sc t1,sc r,ic E]] 0 0 (strB []) (strB []) J p q t u v w w1 F G H I))) (λb2=>altC b2 (λA=>
      zu A λB Q C D t1 r E w1 F G H I=>
      rec (tg 19 (.h6_91 a (a==4) d [[ic g,.imm (qG i),ic j,ic l,sc m,sc n,ic o],[ic B,.own 7 Q,ic C,ic D,sc t1,sc r,ic E]] 0 0 (strB []) (strB []) J p q t u v w w1 F G H I))) (λA=>
      zu A λB Q C D t1 r E w1 F G H I=>
      rec (tg 19 (.h6_91 a (a==4) d [[ic g,.imm (qG i),ic j,ic l,sc m,sc n,ic o],[ic B,.imm Q,ic C,ic D,sc t1,sc r,ic E]] 0 0 (strB []) (strB []) J p q t u v w w1 F G H I))))
 |.h4_91 a b c d e f g i j l m n o p q t u v w x y z h s=>
  bif tg 48 (decide (f<e))then
   ixR b (tg 50 (tg 3 f)) λc1=>
   un_s c1 λO=>
   (tg 54 (g23c k O x y z h s)).bind λP=>
   tup2 P λR N=>
   bif R then
    rec (tg 15 (.h7_91 a b c (wZ (c+f)) e f g i j l m n o p q t u v w N y z h s))
   else
    rec (tg 15 (.h7_91 a b c d e f g i j l m n o p q t u v w N y z h s))
  else
   bif tg 60 (d==0)then
    some (.inl (.inr (.inr (g,i,j,l,m,n,o,x,y,z,h,s))))
   else
    (tg 63 (g47c k x y z h s)).bind λK=>
    tup6 K λ_ _ _ _ J L=>
    (tg 77 (qxf (rec (.e_91 (wZ (a+1)) L (wZ (y+1)) z h s)))).bind λM=>
    altC M (λA=>
      qoG A λB C D t1 r E w1 F G H I=>
      rec (tg 19 (.h6_91 a (a==4) d [[ic g,.imm i,ic j,ic l,sc m,sc n,ic o],[ic B,.nil,ic C,ic D,sc t1,sc r,ic E]] 0 0 (strB []) (strB []) J p q t u v w w1 F G H I))) (λb2=>altC b2 (λA=>
      zu A λB Q C D t1 r E w1 F G H I=>
      rec (tg 19 (.h6_91 a (a==4) d [[ic g,.imm i,ic j,ic l,sc m,sc n,ic o],[ic B,.own 7 Q,ic C,ic D,sc t1,sc r,ic E]] 0 0 (strB []) (strB []) J p q t u v w w1 F G H I))) (λA=>
      zu A λB Q C D t1 r E w1 F G H I=>
      rec (tg 19 (.h6_91 a (a==4) d [[ic g,.imm i,ic j,ic l,sc m,sc n,ic o],[ic B,.imm Q,ic C,ic D,sc t1,sc r,ic E]] 0 0 (strB []) (strB []) J p q t u v w w1 F G H I))))
 |.h5_91 a b c d e f g i j l m n o p q t u v w x y z h s=>rec (tg 1 (.h3_91 a b c d e (wZ (f+1)) g i j l m n o p q t u v w x y z h s))
 |.h6_91 a b c d e f g i j l m n o p q t u v w x=>
  bif b then
   some (.inl (.inr (.inr (c,qG d,e,f,g,i,j,t,u,v,w,x))))
  else
   rec (tg 3 (.h1_91 a c d e f g i j l m n o p q t u v w x))
 |.h7_91 a b c d e f g i j l m n o p q t u v w x y z h s=>rec (tg 1 (.h4_91 a b c d e (wZ (f+1)) g i j l m n o p q t u v w x y z h s))
 |.e_119 a b c d e f=>
  bif tg 10 (a==7)then
   rec (tg 9 (.h0_119 a (strB [45]) 6 0 0 0 (strB []) (strB []) 0 b c d e f))
  else
   rec (tg 9 (.h0_119 a (strB [78,79,84]) 15 0 0 0 (strB []) (strB []) 0 b c d e f))
 |.h0_119 a b c _ _ _ _ _ _ d e f g i=>
  (tg 13 (g23c k b d e f g i)).bind λj=>
  tup2 j λl m=>
  bif tg 14 (!l)then
   (tg 18 (qxf (rec (.e_91 (wZ (a+1)) m e f g i)))).bind λn=>
   altC n (λo=>
     qoG o λp q t u v w x y z h s=>
     rec (tg 6 (rg [] [(⟨⟨.loc 4,[]⟩,0,1⟩,some 7)] (.h1_119 p [] q t u v w x y z h s)))) (λc1=>altC c1 (λo=>
     zu o λp O q t u v w x y z h s=>
     rec (tg 6 (.h1_119 p O q t u v w x y z h s))) (λo=>
     zu o λp O q t u v w x y z h s=>
     rec (tg 6 (.h2_119 p O q t u v w x y z h s))))
  else
   (tg 20 (g141 k m e f g i)).bind λn=>
   tup6 n λP R N K J L=>
   (tg 23 (qxf (rec (.e_91 a R N K J L)))).bind λM=>
   altC M (λA=>
     qoG A λB C D t1 r E w1 F G H I=>
     rec (tg 13 (rg [8] [] (.h3_119 c [[ic B,.nil,ic C,ic D,sc t1,sc r,ic E]] 0 0 (strB []) (strB []) P w1 F (wZ (G-1)) H I)))) (λb2=>altC b2 (λA=>
     zu A λB Q C D t1 r E w1 F G H I=>
     rec (tg 13 (rg [8] [] (.h3_119 c [[ic B,.imm (qG Q),ic C,ic D,sc t1,sc r,ic E]] 0 0 (strB []) (strB []) P w1 F (wZ (G-1)) H I)))) (λA=>
     zu A λB Q C D t1 r E w1 F G H I=>
     rec (tg 13 (rg [8] [] (.h3_119 c [[ic B,.imm Q,ic C,ic D,sc t1,sc r,ic E]] 0 0 (strB []) (strB []) P w1 F (wZ (G-1)) H I)))))
 |.h1_119 a b c d e f g i j l m n=>some (.inr (.inl (.inl (a,b,c,d,e,f,g,i,j,l,m,n))))
 |.h2_119 a b c d e f g i j l m n=>some (.inr (.inl (.inr (a,b,c,d,e,f,g,i,j,l,m,n))))
 |.h3_119 a b c d e f g i j l m n=>some (.inr (.inl (.inl (a,b,c,d,e,f,g,i,j,l,m,n))))
 |.e_120 a b c d e=>
  (tg 6 (g47c k a b c d e)).bind λf=>
  tup6 f λg i j l m n=>
  bif tg 15 (g==3)then
   rec (tg 15 (rg [3] [(⟨⟨.loc 4,[]⟩,0,1⟩,some 7)] (.h0_120 20 [] j 0 (strB []) (strB []) m 0 0 0 (strB []) (strB []) 0 n (wZ (b+1)) c d e)))
  else
   bif tg 30 (g==4)then
    rec (tg 18 (rg [3] [(⟨⟨.loc 4,[]⟩,0,1⟩,some 7)] (.h0_120 21 [] j l (strB []) (strB []) m 0 0 0 (strB []) (strB []) 0 n (wZ (b+1)) c d e)))
   else
    bif tg 48 (g==5)then
     rec (tg 21 (rg [3] [(⟨⟨.loc 4,[]⟩,0,1⟩,some 7)] (.h0_120 23 [] 0 0 i (strB []) m 0 0 0 (strB []) (strB []) 0 n (wZ (b+1)) c d e)))
    else
     bif tg 63 (g==2)then
      (tg 67 (g142 k n b c d e)).bind λo=>
      tup6 o λp q t u v w=>
      rec (tg 24 (rg [3] [(⟨⟨.loc 4,[]⟩,0,1⟩,some 7)] (.h0_120 24 [] 0 0 p q m 0 0 0 (strB []) (strB []) 0 t u c v w)))
     else
      (tg 74 (g23c k (strB [40]) n b c d e)).bind λo=>
      tup2 o λx t=>
      bif x then
       (tg 76 (g141 k t b c d e)).bind λy=>
       tup6 y λz h s c1 O P=>
       (tg 78 (qxf (rec (.e_91 1 h s c1 O P)))).bind λR=>
       altC R (λN=>
         qoG N λK J L M A B C D t1 r E=>
         (tg 80 (g21c k (strB [41]) C D t1 r E)).bind λw1=>
         tup4 w1 λF G H I=>
         rec (tg 31 (rg [3] [(⟨⟨.loc 4,[]⟩,0,1⟩,some 7)] (.h0_120 K [] J L M A B 0 0 0 (strB []) (strB []) 0 F G (wZ (t1-1)) H I)))) (λb2=>altC b2 (λN=>
         zu N λK Q J L M A B C D t1 r E=>
         (tg 80 (g21c k (strB [41]) C D t1 r E)).bind λw1=>
         tup4 w1 λF G H I=>
         rec (tg 31 (rg [3] [] (.h0_120 K Q J L M A B 0 0 0 (strB []) (strB []) 0 F G (wZ (t1-1)) H I)))) (λN=>
         zu N λK Q J L M A B C D t1 r E=>
         (tg 80 (g21c k (strB [41]) C D t1 r E)).bind λw1=>
         tup4 w1 λF G H I=>
         rec (tg 31 (rg [3] [] (.h1_120 K Q J L M A B 0 0 0 (strB []) (strB []) 0 F G (wZ (t1-1)) H I)))))
      else
       (tg 90 (g23c k (strB [84,82,85,69]) t b c d e)).bind λy=>
       tup2 y λz h=>
       bif z then
        rec (tg 25 (rg [3] [] (.h2_120 true 0 0 0 (strB []) (strB []) m 0 0 0 (strB []) (strB []) 0 h b c d e)))
       else
        (tg 93 (g23c k (strB [70,65,76,83,69]) h b c d e)).bind λR=>
        tup2 R λS T=>
        rec (tg 25 (rg [3] [] (.h2_120 S 0 0 0 (strB []) (strB []) m 0 0 0 (strB []) (strB []) 0 T b c d e)))
 |.h0_120 a b c d e f g _ _ _ _ _ _ i j l m n=>some (.inr (.inr (a,qG b,c,d,e,f,g,i,j,l,m,n)))
 |.h1_120 a b c d e f g _ _ _ _ _ _ i j l m n=>some (.inr (.inr (a,b,c,d,e,f,g,i,j,l,m,n)))
 |.h2_120 a b c d e f g i j l m n o p q t u v=>
  bif a then
   (tg 97 (g23c k (strB [84,82,85,69]) p q t u v)).bind λw=>
   tup2 w λx y=>
   bif x then
    rec (tg 8 (.h3_120 22 1 d e f g i j l m n o y q t u v))
   else
    rec (tg 8 (.h3_120 22 c d e f g i j l m n o y q t u v))
  else
   (tg 108 (g23c k (strB [82,69,65,76]) p q t u v)).bind λw=>
   tup2 w λx y=>
   bif x then
    rec (tg 3 (.h4_120 true b c d e f g i j l m n o y q t u v))
   else
    (tg 111 (g23c k (strB [73,83,78,65,78]) y q t u v)).bind λz=>
    tup2 z λh s=>
    rec (tg 3 (.h4_120 h b c d e f g i j l m n o s q t u v))
 |.h3_120 a b c d e f g i j l m n o p q t u=>rec (tg 2 (rg [] [(⟨⟨.loc 4,[]⟩,0,1⟩,some 7)] (.h0_120 a [] b c d e f g i j l m n o (wZ (p+1)) q t u)))
 |.h4_120 a b c d e f g i j l m n o p q t u v=>
  bif a then
   (tg 115 (g23c k (strB [73,83,78,65,78]) p q t u v)).bind λw=>
   tup2 w λx y=>
   bif x then
    rec (tg 8 (.h5_120 17 c d e f g i j l m n o y q t u v))
   else
    rec (tg 8 (.h5_120 16 c d e f g i j l m n o y q t u v))
  else
   rec (tg 1 (rg [] [(⟨⟨.loc 4,[]⟩,0,1⟩,some 7)] (.h6_120 b [] c d e f g i j l m n o p q t u v)))
 |.h5_120 a b c d e f g i j l m n o p q t u=>
  (tg 118 (g141 k o p q t u)).bind λv=>
  tup6 v λ_ w x y z h=>
  (tg 120 (g21c k (strB [40]) w x y z h)).bind λs=>
  tup4 s λc1 O P R=>
  (tg 122 (qxf (rec (.e_91 1 c1 O y P R)))).bind λN=>
  altC N (λK=>
    qoG K λJ L M A B C D t1 r E w1=>
    (tg 126 (g21c k (strB [41]) D t1 r E w1)).bind λF=>
    tup4 F λG H I b2=>
    rec (tg 10 (.h0_120 a [[ic J,.nil,ic L,ic M,sc A,sc B,ic C]] b c d e f g i j l m n G H (wZ (r-1)) I b2))) (λQ=>altC Q (λK=>
    zu K λJ S L M A B C D t1 r E w1=>
    (tg 126 (g21c k (strB [41]) D t1 r E w1)).bind λF=>
    tup4 F λG H I b2=>
    rec (tg 10 (.h0_120 a [[ic J,.own 7 S,ic L,ic M,sc A,sc B,ic C]] b c d e f g i j l m n G H (wZ (r-1)) I b2))) (λK=>
    zu K λJ S L M A B C D t1 r E w1=>
    (tg 126 (g21c k (strB [41]) D t1 r E w1)).bind λF=>
    tup4 F λG H I b2=>
    rec (tg 10 (.h0_120 a [[ic J,.imm S,ic L,ic M,sc A,sc B,ic C]] b c d e f g i j l m n G H (wZ (r-1)) I b2))))
 |.h6_120 a b c d e f g i j l m n o p q t u v=>
  (tg 11 (qDO k p q t u v a b c d e f g)).bind λw=>
  tup8 w λx y z h s c1 O P=>
  rec (tg 2 (.h0_120 s c1 c d O P g i j l m n o x y t z h))
noncomputable def g91 (k:Nat)(a:Int)(b:Rs)(c d e f:Int):Option qxC:=qxf (itS zX k (.e_91 a b c d e f))
def P91:S91->R91->Prop
 |.e_91 a b c d e f=>Fe Y91 rs91 bs91 [pP 0,cic a] [[.imm b,ic c,ic d,ic e,ic f]]
 |.h0_91 a b c d e f g i j l m n o=>Fk Y91 rs91 bs91 [1,1,0,1,2] ([pP 0,cic a,.deadv,.deadv,pL 4]++rd 18++[cbc b]++rd 61) [(.loc 4,[ic c,.nil,ic d,ic e,sc f,sc g,ic i]),(.par 0,[.imm j,ic l,ic m,ic n,ic o])]
 |.h1_91 a b c d e f g i j l m n o p q t u v w=>Fk Y91 rs91 bs91 [1,1,1,1,1,0,0,4] ([pP 0,cic a,.deadv,.deadv,pL 4,pL 5]++rd 79) [(.loc 5,[ic b,.own 7 c,ic d,ic e,sc f,sc g,ic i]),(.loc 4,[ic j,.nil,ic l,ic m,sc n,sc o,ic p]),(.par 0,[.imm q,ic t,ic u,ic v,ic w])]
 |.h2_91 a b c d e f g i j l m n o p q t u v w=>Fk Y91 rs91 bs91 [1,1,1,1,1,0,0,4] ([pP 0,cic a,.deadv,.deadv,pL 4,pL 5]++rd 79) [(.loc 5,[ic b,.imm c,ic d,ic e,sc f,sc g,ic i]),(.loc 4,[ic j,.nil,ic l,ic m,sc n,sc o,ic p]),(.par 0,[.imm q,ic t,ic u,ic v,ic w])]
 |.h3_91 a b c d e f g i j l m n o p q t u v w x y z h k=>Fk Y91 rs91 bs91 [1,1,1,1,1,0,0,0,1,0,1,1,0,1,0,4] ([pP 0,cic a,.deadv,.deadv,pL 4,pL 5,.c (.own 1 b),cic c,cic d]++rd 36++[.c (.ref ⟨⟨.slot 6,[]⟩,0,0⟩),cic e,cic f]++rd 37) [(.loc 5,[ic g,.own 7 i,ic j,ic l,sc m,sc n,ic o]),(.loc 4,[ic p,.nil,ic q,ic t,sc u,sc v,ic w]),(.par 0,[.imm x,ic y,ic z,ic h,ic k])]
 |.h4_91 a b c d e f g i j l m n o p q t u v w x y z h k=>Fk Y91 rs91 bs91 [1,1,1,1,1,0,0,0,1,0,1,1,0,1,0,4] ([pP 0,cic a,.deadv,.deadv,pL 4,pL 5,.c (.own 1 b),cic c,cic d]++rd 36++[.c (.ref ⟨⟨.slot 6,[]⟩,0,0⟩),cic e,cic f]++rd 37) [(.loc 5,[ic g,.imm i,ic j,ic l,sc m,sc n,ic o]),(.loc 4,[ic p,.nil,ic q,ic t,sc u,sc v,ic w]),(.par 0,[.imm x,ic y,ic z,ic h,ic k])]
 |.h5_91 a b c d e f g i j l m n o p q t u v w x y z h k=>Fk Y91 rs91 bs91 [1,1,1,1,1,0,0,0,1,0,1,1,0,1,0,0,1,1,1,2] ([pP 0,cic a,.deadv,.deadv,pL 4,pL 5,.c (.own 1 b),cic c,cic d]++rd 36++[.c (.ref ⟨⟨.slot 6,[]⟩,0,0⟩),cic e,cic f]++rd 37) [(.loc 5,[ic g,.own 7 i,ic j,ic l,sc m,sc n,ic o]),(.loc 4,[ic p,.nil,ic q,ic t,sc u,sc v,ic w]),(.par 0,[.imm x,ic y,ic z,ic h,ic k])]
 |.h6_91 a b c d e f g i j l m n o p q t u v w x=>Fk Y91 rs91 bs91 [1,1,1,1,1,0,0,0,1,0,1,1,1,1,1,1,1,1,2] ([pP 0,cic a,.deadv,.deadv,pL 4,pL 5]++rd 76++[cbc b,.deadv,.deadv]) [(.loc 5,[ic c,.own 7 d,ic e,ic f,sc g,sc i,ic j]),(.loc 4,[ic l,.nil,ic m,ic n,sc o,sc p,ic q]),(.par 0,[.imm t,ic u,ic v,ic w,ic x])]
 |.h7_91 a b c d e f g i j l m n o p q t u v w x y z h k=>Fk Y91 rs91 bs91 [1,1,1,1,1,0,0,0,1,0,1,1,0,1,0,0,1,1,1,2] ([pP 0,cic a,.deadv,.deadv,pL 4,pL 5,.c (.own 1 b),cic c,cic d]++rd 36++[.c (.ref ⟨⟨.slot 6,[]⟩,0,0⟩),cic e,cic f]++rd 37) [(.loc 5,[ic g,.imm i,ic j,ic l,sc m,sc n,ic o]),(.loc 4,[ic p,.nil,ic q,ic t,sc u,sc v,ic w]),(.par 0,[.imm x,ic y,ic z,ic h,ic k])]
 |.e_119 a b c d e f=>Fe Y119 qCh qBq [pP 0,cic a] [[.imm b,ic c,ic d,ic e,ic f]]
 |.h0_119 a b c d e f g i j l m n o p=>Fk Y119 qCh qBq [1,1,1,2] ([pP 0,cic a,.deadv,.deadv,pL 4,csc b,cic c]++rd 29) [(.loc 4,[ic d,.nil,ic e,ic f,sc g,sc i,ic j]),(.par 0,[.imm l,ic m,ic n,ic o,ic p])]
 |.h1_119 a b c d e f g i j l m n=>Fk Y119 qCh qBq [1,1,1,0,1,0,1,2] (rd 4++[pL 4]++rd 31) [(.loc 4,[ic a,.own 7 b,ic c,ic d,sc e,sc f,ic g]),(.par 0,[.imm i,ic j,ic l,ic m,ic n])]
 |.h2_119 a b c d e f g i j l m n=>Fk Y119 qCh qBq [1,1,1,0,1,0,1,2] (rd 4++[pL 4]++rd 31) [(.loc 4,[ic a,.imm b,ic c,ic d,sc e,sc f,ic g]),(.par 0,[.imm i,ic j,ic l,ic m,ic n])]
 |.h3_119 a b c d e f g i j l m n=>Fk Y119 qCh qBq [1,1,1,1,1,1,1,1,2] (rd 4++[pL 4]++rd 31) [(.loc 4,[ic a,.own 7 b,ic c,ic d,sc e,sc f,ic g]),(.par 0,[.imm i,ic j,ic l,ic m,ic n])]
 |.e_120 a b c d e=>Fe Y120 qzq qyZ [pP 0] [[.imm a,ic b,ic c,ic d,ic e]]
 |.h0_120 a b c d e f g i j l m n o p q t u v=>Fk Y120 qzq qyZ [1,1,1,1,2] ([.deadv,.deadv,pL 2,.deadv,pL 4]++rd 130) [(.loc 4,[ic a,.own 7 b,ic c,ic d,sc e,sc f,ic g]),(.loc 2,[ic i,.nil,ic j,ic l,sc m,sc n,ic o]),(.par 0,[.imm p,ic q,ic t,ic u,ic v])]
 |.h1_120 a b c d e f g i j l m n o p q t u v=>Fk Y120 qzq qyZ [1,1,1,1,2] ([.deadv,.deadv,pL 2,.deadv,pL 4]++rd 130) [(.loc 4,[ic a,.imm b,ic c,ic d,sc e,sc f,ic g]),(.loc 2,[ic i,.nil,ic j,ic l,sc m,sc n,ic o]),(.par 0,[.imm p,ic q,ic t,ic u,ic v])]
 |.h2_120 a b c d e f g i j l m n o p q t u v=>Fk Y120 qzq qyZ [1,1,1,0,0,1,1,1,1,1,1,1,1,1,1,1,2] ([pP 0,.deadv,pL 2,.deadv,pL 4]++rd 83++[cbc a]++rd 46) [(.loc 4,[ic b,.nil,ic c,ic d,sc e,sc f,ic g]),(.loc 2,[ic i,.nil,ic j,ic l,sc m,sc n,ic o]),(.par 0,[.imm p,ic q,ic t,ic u,ic v])]
 |.h3_120 a b c d e f g i j l m n o p q t u=>Fk Y120 qzq qyZ [1,1,1,0,0,1,1,1,1,1,1,1,1,1,1,1,0,1,1,2] ([pP 0,.deadv,pL 2,.deadv,pL 4]++rd 130) [(.loc 4,[ic a,.nil,ic b,ic c,sc d,sc e,ic f]),(.loc 2,[ic g,.nil,ic i,ic j,sc l,sc m,ic n]),(.par 0,[.imm o,ic p,ic q,ic t,ic u])]
 |.h4_120 a b c d e f g i j l m n o p q t u v=>Fk Y120 qzq qyZ [1,1,1,0,0,1,1,1,1,1,1,1,1,1,1,1,1,1,2] ([pP 0,.deadv,pL 2,.deadv,pL 4]++rd 101++[cbc a]++rd 28) [(.loc 4,[ic b,.nil,ic c,ic d,sc e,sc f,ic g]),(.loc 2,[ic i,.nil,ic j,ic l,sc m,sc n,ic o]),(.par 0,[.imm p,ic q,ic t,ic u,ic v])]
 |.h5_120 a b c d e f g i j l m n o p q t u=>Fk Y120 qzq qyZ [1,1,1,0,0,1,1,1,1,1,1,1,1,1,1,1,1,1,0,1,1,2] ([pP 0,.deadv,pL 2,.deadv,pL 4]++rd 130) [(.loc 4,[ic a,.nil,ic b,ic c,sc d,sc e,ic f]),(.loc 2,[ic g,.nil,ic i,ic j,sc l,sc m,ic n]),(.par 0,[.imm o,ic p,ic q,ic t,ic u])]
 |.h6_120 a b c d e f g i j l m n o p q t u v=>Fk Y120 qzq qyZ [1,1,1,0,0,1,1,1,1,1,1,1,1,1,1,1,1,1,1,2] ([pP 0,.deadv,pL 2,.deadv,pL 4]++rd 130) [(.loc 4,[ic a,.own 7 b,ic c,ic d,sc e,sc f,ic g]),(.loc 2,[ic i,.nil,ic j,ic l,sc m,sc n,ic o]),(.par 0,[.imm p,ic q,ic t,ic u,ic v])]
instance {a:Int} {b:Rs} {c d e f:Int}:EvS P91 qxf (.e_91 a b c d e f) 91 [pP 0,cic a] [[.imm b,ic c,ic d,ic e,ic f]] qi7 bx91:=⟨λo h v e=>evF (h _ (qAQ e))⟩
instance {a:Int} {b:Rs} {c d e f:Int}:EvS P91 qyx (.e_119 a b c d e f) 119 [pP 0,cic a] [[.imm b,ic c,ic d,ic e,ic f]] qDn qEr:=⟨λo h v e=>evF (h _ (qCo e))⟩
instance {a:Rs} {b c d e:Int}:EvS P91 qyy (.e_120 a b c d e) 120 [pP 0] [[.imm a,ic b,ic c,ic d,ic e]] qDo qEs:=⟨λo h v e=>evF (h _ (qCp e))⟩
theorem ok91:∀ k s r,itS zX k s=some r->P91 s r:=okU (And.intro @qwn trivial)
instance {k:Nat} {a:Int} {b:Rs} {c d e f:Int}:EvI (g91 k a b c d e f) 91 [pP 0,cic a] [[.imm b,ic c,ic d,ic e,ic f]] qi7 bx91:=⟨λr h=>evF (ok91 _ _ _ (qAQ h))⟩
def qql:R48->ARes
 |(a,b,c,d,e,f,g,i,j,l)=>.ret ⟨.tup [true,false,false,false],[[ic a,.imm b,ic c,ic d,sc e,sc f,ic g],[ic i],[ic j],[ic l]]⟩
noncomputable def qpX (k:Nat)(rec:S48->Option R48):S48->Option R48
 |.e a b=>
  bif tg 11 (decide (b<0))then
   rec (tg 5 (.h0 a b true 0 0 0 (strB []) (strB []) 0))
  else
   rec (tg 5 (.h0 a b (decide (b>=(a.length:Int))) 0 0 0 (strB []) (strB []) 0))
 |.h0 a b c d e f g i j=>
  bif c then
   rec (tg 3 (rg [] [(⟨⟨.loc 4,[]⟩,0,1⟩,none)] (.h1 0 0 1 0 [] 0 0 (strB []) (strB []) 0)))
  else
   (tg 24 (g91 k 1 a b 0 0 0)).bind λl=>
   altC l (λm=>
     qoG m λn o p q t u v w x y z=>
     rec (tg 9 (rg [] [(⟨⟨.loc 9,[]⟩,0,1⟩,some 7)] (.h2 (y != 0) n [] o p q t u v w x y z d e f g i j)))) (λr=>altC r (λm=>
     zu m λn h o p q t u v w x y z=>
     rec (tg 9 (.h2 (y != 0) n h o p q t u v w x y z d e f g i j))) (λm=>
     zu m λn h o p q t u v w x y z=>
     rec (tg 9 (.h3 (y != 0) n h o p q t u v w x y z d e f g i j))))
 |.h1 a b c d e f g i j l=>some (d,e,f,g,i,j,l,a,b,c)
 |.h2 a b c d e f g i _ j _ l m ..=>
  bif a then
   rec (tg 3 (rg [9,22] [(⟨⟨.loc 4,[]⟩,0,1⟩,none)] (.h4 0 m l 0 [] 0 0 (strB []) (strB []) 0)))
  else
   rec (tg 4 (rg [9,22] [] (.h5 j 0 0 b (qG c) d e f g i)))
 |.h3 a b c d e f g i _ j _ l m ..=>
  bif a then
   rec (tg 3 (rg [9,22] [(⟨⟨.loc 4,[]⟩,0,1⟩,none)] (.h4 0 m l 0 [] 0 0 (strB []) (strB []) 0)))
  else
   rec (tg 4 (rg [9,22] [] (.h5 j 0 0 b c d e f g i)))
 |.h4 a b c d e f g i j l=>some (d,e,f,g,i,j,l,a,b,c)
 |.h5 a b c d e f g i j l=>some (d,e,f,g,i,j,l,a,b,c)
noncomputable def g48 (k:Nat)(a:Rs)(b:Int):Option R48:=itS qpX k (.e a b)
def P48:S48->R48->Prop
 |.e a b=>Fe Y48 qql nB [cm a,cic b] []
 |.h0 a b c d e f g i j=>Fk Y48 qql nB [1,0,1,2] ([cm a,cic b,.deadv,.deadv,pL 4]++rd 12++[cbc c]++rd 26) [(.loc 4,[ic d,.nil,ic e,ic f,sc g,sc i,ic j])]
 |.h1 a b c d e f g i j l=>Fk Y48 qql nB [1,0,1,0,1,2] (rd 4++[pL 4,cic a,cic b,cic c]++rd 36) [(.loc 4,[ic d,.imm e,ic f,ic g,sc i,sc j,ic l])]
 |.h2 a b c d e f g i j l m n o p q t u v w=>Fk Y48 qql nB [1,1,1,1,0,1,2] (rd 4++[pL 4]++rd 3++[pL 22,pL 9]++rd 19++[cbc a]++rd 14) [(.loc 9,[ic b,.own 7 c,ic d,ic e,sc f,sc g,ic i]),(.loc 22,[.imm j,ic l,ic m,ic n,ic o]),(.loc 4,[ic p,.nil,ic q,ic t,sc u,sc v,ic w])]
 |.h3 a b c d e f g i j l m n o p q t u v w=>Fk Y48 qql nB [1,1,1,1,0,1,2] (rd 4++[pL 4]++rd 3++[pL 22,pL 9]++rd 19++[cbc a]++rd 14) [(.loc 9,[ic b,.imm c,ic d,ic e,sc f,sc g,ic i]),(.loc 22,[.imm j,ic l,ic m,ic n,ic o]),(.loc 4,[ic p,.nil,ic q,ic t,sc u,sc v,ic w])]
 |.h4 a b c d e f g i j l=>Fk Y48 qql nB [1,1,1,1,0,1,0,1,2] (rd 4++[pL 4,cic a,cic b,cic c]++rd 36) [(.loc 4,[ic d,.imm e,ic f,ic g,sc i,sc j,ic l])]
 |.h5 a b c d e f g i j l=>Fk Y48 qql nB [1,1,1,1,1,1,2] (rd 4++[pL 4,cic a,cic b,cic c]++rd 36) [(.loc 4,[ic d,.imm e,ic f,ic g,sc i,sc j,ic l])]
theorem ok48:∀ k s r,itS qpX k s=some r->P48 s r:=okU trivial
instance {k:Nat} {a:Rs} {b:Int}:EvI (g48 k a b) 48 [cm a,cic b] [] qql nB:=eI ok48
def qtG:R49->ARes
 |r=>.ret (.c (.own 7 r))
noncomputable def qq2 (k:Nat)(rec:S49->Option R49):S49->Option R49
 |.e a b c d e f g=>
  bif tg 5 (a != 13)then
   some [[ic a,.imm b,ic c,ic d,sc e,sc f,ic g]]
  else
   ixR b (tg 10 0) λi=>
   qE i λj l m n o p q=>
   (tg 12 (rec (.e j l m n o p q))).bind λt=>
   ixR b (tg 15 1) λu=>
   qE u λv w x y z h r=>
   (tg 17 (rec (.e v w x y z h r))).bind λc1=>
   gd (tg 18 (apOk 88 7 t c1)) <|
   some (t++c1)
noncomputable def g49 (k:Nat)(a:Int)(b:Rs)(c d:Int)(e f:By)(g:Int):Option R49:=itS qq2 k (.e a b c d e f g)
def P49:S49->R49->Prop
 |.e a b c d e f g=>Fe Y49 qtG nB [.ag [ic a,.imm b,ic c,ic d,sc e,sc f,ic g]] []
instance {a:Int} {b:Rs} {c d:Int} {e f:By} {g:Int}:EvS P49 id (.e a b c d e f g) 49 [.ag [ic a,.imm b,ic c,ic d,sc e,sc f,ic g]] [] qtG nB:=⟨λo h v e=>evF (h v e)⟩
theorem ok49:∀ k s r,itS qq2 k s=some r->P49 s r:=okU (And.intro @qu4 trivial)
instance {k:Nat} {a:Int} {b:Rs} {c d:Int} {e f:By} {g:Int}:EvI (g49 k a b c d e f g) 49 [.ag [ic a,.imm b,ic c,ic d,sc e,sc f,ic g]] [] qtG nB:=eI ok49
noncomputable def qj6 (k:Nat)(rec:S24->Option R24):S24->Option R24
 |.e a b c d e f g i j l m=>
  bif tg 11 (d != 0)then
   rec (tg 3 (.h0 true a b c d e f g i j l m))
  else
   (tg 16 (g23b k (strB [87,72,69,82,69]) a b c d e f g i j l m)).bind λn=>
   tup4 n λo p q t=>
   rec (tg 3 (.h0 (!o) p b c d e q t i j l m))
 |.h0 a b c _ d e f g ..=>
  bif a then
   some (b,c,d,e,f,g)
  else
   (tg 39 (g48 k b (wZ (c+1)))).bind λi=>
   ql i λj l m n o p q t u v=>
   bif tg 45 (v != 0)then
    some (b,wZ (c+1),v,u,f,g)
   else
    (tg 63 (g49 k j l m n o p q)).bind λw=>
    some (b,t,d,e,f,w)
noncomputable def g24 (k:Nat)(a:Rs)(b c d e:Int)(f g:Rs)(i j:Int)(l:By)(m:Int):Option R24:=itS qj6 k (.e a b c d e f g i j l m)
def P24:S24->R24->Prop
 |.e a b c d e f g i j l m=>Fe Y24 qwb (qxs c i j l m) [pP 0] [[.imm a,ic b,ic c,ic d,ic e,.own 1 f,.own 7 g,ic i,ic j,sc l,ic m]]
 |.h0 a b c d e f g i j l m n=>Fk Y24 qwb (qxs d j l m n) [0,1,2] ([pP 0]++rd 17++[cbc a]++rd 48) [(.par 0,[.imm b,ic c,ic d,ic e,ic f,.own 1 g,.own 7 i,ic j,ic l,sc m,ic n])]
theorem ok24:∀ k s r,itS qj6 k s=some r->P24 s r:=okU trivial
instance {k:Nat} {a:Rs} {b c d e:Int} {f g:Rs} {i j:Int} {l:By} {m:Int}:EvI (g24 k a b c d e f g i j l m) 24 [pP 0] [[.imm a,ic b,ic c,ic d,ic e,.own 1 f,.own 7 g,ic i,ic j,sc l,ic m]] qwb (qxs c i j l m):=eI ok24
def qhG:R25->ARes
 |(_,_,_,_,_,_,_,_,_,_)=>.ret .undef
def bx25 (h:Int):R25->List (List Cell)
 |(a,b,c,d,e,f,g,i,j,l)=>[[.imm a,ic b,ic h,ic c,ic d,.own 1 e,.own 7 f,ic g,ic i,sc j,ic l]]
noncomputable def qjZ (k:Nat)(rec:S25->Option R25):S25->Option R25
 |.e a b c d e f g i j l m=>
  (tg 7 (g21b k (strB [83,84,82,65,84,69,71,89]) a b c d e f g i j l m)).bind λn=>
  tup6 n λo p q t u v=>
  rec (tg 7 (.h0 [[sc (strB [83,84,82,73,67,84])],[sc (strB [78,69,88,84])],[sc (strB [65,78,89])]] 3 0 o p c q t u v i j l m))
 |.h0 a b c d e f g i j l m n o p=>
  bif tg 11 (decide (c<b))then
   ixR a (tg 13 (tg 3 c)) λq=>
   un_s q λt=>
   bif tg 20 (g==0)then
    bif tg 27 (m==0)then
     (tg 34 (g23b k t d e f g i j l m n o p)).bind λu=>
     tup4 u λv w x y=>
     rec (tg 12 (.h1 c a b c v w e f g i x y m n o p))
    else
     rec (tg 12 (.h1 c a b c false d e f g i j l m n o p))
   else
    rec (tg 12 (.h1 c a b c false d e f g i j l m n o p))
  else
   bif tg 57 (m==0)then
    (tg 59 (g50b k 13 d e f g i j l m n o p)).bind λz=>
    tup5 z λr s c1 A h=>
    rec (tg 11 (.h2 r e f s c1 A h m n o p))
   else
    rec (tg 11 (.h2 d e f g i j l m n o p))
 |.h1 a b c d e f g i j l m n o p q t=>
  bif e then
   rec (tg 5 (.h3 b c d f (wZ (g+1)) i j l m n (wZ (a+1)) p q t))
  else
   rec (tg 3 (.h3 b c d f g i j l m n o p q t))
 |.h2 a b c d e f g i j l m=>
  (tg 63 (g21b k (strB [87,73,84,72,73,78]) a b c d e f g i j l m)).bind λn=>
  tup6 n λo p q t u v=>
  bif tg 69 (q==0)then
   ixR o (tg 81 p) λw=>
   qaM w λx _ _ _ _=>
   rec (tg 5 (.h4 (x != 3) o p c q t u v i j l m))
  else
   rec (tg 5 (.h4 false o p c q t u v i j l m))
 |.h3 a b c d e f g i j l m n o p=>rec (tg 1 (.h0 a b (wZ (c+1)) d e f g i j l m n o p))
 |.h4 a b c d e f g i j l m n=>
  bif a then
   (tg 87 (g50b k 13 b c d e f g i j l m n)).bind λo=>
   tup5 o λp q t u v=>
   rec (tg 2 (.h5 p c d q t u v j l m n))
  else
   rec (tg 2 (.h5 b c d e f g i j l m n))
 |.h5 a b c d e f g i j l m=>
  bif tg 93 (d==0)then
   ixR a (tg 105 b) λn=>
   qaM n λ_ _ o _ _=>
   rec (tg 3 (.h6 (decide (o>1152921504606846976)) a b c d e f g i j l m))
  else
   rec (tg 3 (.h6 false a b c d e f g i j l m))
 |.h6 a b c d e f g i j l m n=>
  bif a then
   (tg 111 (g50b k 1 b c d e f g i j l m n)).bind λo=>
   tup5 o λp q t u v=>
   rec (tg 2 (.h7 p c d q t u v j l m n))
  else
   rec (tg 2 (.h7 b c d e f g i j l m n))
 |.h7 a b c d e f g i j l m=>
  bif tg 117 (d != 0)then
   some (a,b,d,e,f,g,i,j,l,m)
  else
   ixR a (tg 129 b) λn=>
   qaM n λ_ _ o _ _=>
   (tg 147 (g23b k (strB [80,65,82,84,73,84,73,79,78]) a (wZ (b+1)) c d e f g i o l m)).bind λp=>
   tup4 p λq t u v=>
   bif q then
    (tg 160 (g21b k (strB [66,89]) t (wZ ((wZ (b+1))+1)) c d e u v i o l m)).bind λw=>
    tup6 w λx y z r s c1=>
    ixR x (tg 172 y) λA=>
    qaM A λ_ _ _ _ h=>
    (tg 180 (g51b k x y c z r s c1 i o l h)).bind λB=>
    tup7 B λC D E F G H I=>
    some (D,E,F,G,H,I,i,o,C,h)
   else
    some (t,wZ (b+1),d,e,u,v,i,o,l,m)
noncomputable def g25 (k:Nat)(a:Rs)(b c d e:Int)(f g:Rs)(i j:Int)(l:By)(m:Int):Option R25:=itS qjZ k (.e a b c d e f g i j l m)
def P25:S25->R25->Prop
 |.e a b c d e f g i j l m=>Fe Y25 qhG (bx25 c) [pP 0] [[.imm a,ic b,ic c,ic d,ic e,.own 1 f,.own 7 g,ic i,ic j,sc l,ic m]]
 |.h0 a b c d e f g i j l m n o p=>Fk Y25 qhG (bx25 f) [1,0,1,0,4] ([pP 0]++rd 7++[.c (.own 1 a),cic b,cic c]++rd 173) [(.par 0,[.imm d,ic e,ic f,ic g,ic i,.own 1 j,.own 7 l,ic m,ic n,sc o,ic p])]
 |.h1 a b c d e f g i j l m n o p q t=>Fk Y25 qhG (bx25 i) [1,0,1,0,0,1,1,0,0,1,1,2] ([pP 0,.deadv,cic a]++rd 5++[.c (.own 1 b),cic c,cic d]++rd 24++[cbc e]++rd 148) [(.par 0,[.imm f,ic g,ic i,ic j,ic l,.own 1 m,.own 7 n,ic o,ic p,sc q,ic t])]
 |.h2 a b c d e f g i j l m=>Fk Y25 qhG (bx25 c) [1,1,1,2] ([pP 0]++rd 183) [(.par 0,[.imm a,ic b,ic c,ic d,ic e,.own 1 f,.own 7 g,ic i,ic j,sc l,ic m])]
 |.h3 a b c d e f g i j l m n o p=>Fk Y25 qhG (bx25 f) [1,0,1,0,0,1,1,1,2] ([pP 0]++rd 7++[.c (.own 1 a),cic b,cic c]++rd 173) [(.par 0,[.imm d,ic e,ic f,ic g,ic i,.own 1 j,.own 7 l,ic m,ic n,sc o,ic p])]
 |.h4 a b c d e f g i j l m n=>Fk Y25 qhG (bx25 d) [1,1,1,1,0,1,2] ([pP 0]++rd 84++[cbc a]++rd 98) [(.par 0,[.imm b,ic c,ic d,ic e,ic f,.own 1 g,.own 7 i,ic j,ic l,sc m,ic n])]
 |.h5 a b c d e f g i j l m=>Fk Y25 qhG (bx25 c) [1,1,1,1,1,2] ([pP 0]++rd 183) [(.par 0,[.imm a,ic b,ic c,ic d,ic e,.own 1 f,.own 7 g,ic i,ic j,sc l,ic m])]
 |.h6 a b c d e f g i j l m n=>Fk Y25 qhG (bx25 d) [1,1,1,1,1,0,1,2] ([pP 0]++rd 108++[cbc a]++rd 74) [(.par 0,[.imm b,ic c,ic d,ic e,ic f,.own 1 g,.own 7 i,ic j,ic l,sc m,ic n])]
 |.h7 a b c d e f g i j l m=>Fk Y25 qhG (bx25 c) [1,1,1,1,1,1,2] ([pP 0]++rd 183) [(.par 0,[.imm a,ic b,ic c,ic d,ic e,.own 1 f,.own 7 g,ic i,ic j,sc l,ic m])]
theorem ok25:∀ k s r,itS qjZ k s=some r->P25 s r:=okU (And.intro @qvx (And.intro @qwn trivial))
instance {k:Nat} {a:Rs} {b c d e:Int} {f g:Rs} {i j:Int} {l:By} {m:Int}:EvI (g25 k a b c d e f g i j l m) 25 [pP 0] [[.imm a,ic b,ic c,ic d,ic e,.own 1 f,.own 7 g,ic i,ic j,sc l,ic m]] qhG (bx25 c):=eI ok25
noncomputable def qfC (k:Nat)(rec:S52->Option R52):S52->Option R52
 |.e a b c d e f g=>rec (tg 9 (.h0 1 (b.length:Int) 0 a b c d e f g))
 |.h0 a b c d e f g i j l=>
  bif tg 9 (decide (c<b))then
   ixR e (tg 15 c) λm=>
   qE m λn o p q t u v=>
   (tg 17 (rec (.e n o p q t u v))).bind λw=>
   rec (tg 13 (.h0 (wZ (a+w)) b (wZ (c+1)) d e f g i j l))
  else
   some a
noncomputable def g52 (k:Nat)(a:Int)(b:Rs)(c d:Int)(e f:By)(g:Int):Option R52:=itS qfC k (.e a b c d e f g)
def P52:S52->R52->Prop
 |.e a b c d e f g=>Fe Y52 qmW nB [.ag [ic a,.imm b,ic c,ic d,sc e,sc f,ic g]] []
 |.h0 a b c d e f g i j l=>Fk Y52 qmW nB [1,1,0,1,0,4] ([.deadv,pL 1,.deadv,cic a]++rd 3++[cic b,cic c]++rd 12) [(.loc 1,[ic d,.imm e,ic f,ic g,sc i,sc j,ic l])]
instance {a:Int} {b:Rs} {c d:Int} {e f:By} {g:Int}:EvS P52 id (.e a b c d e f g) 52 [.ag [ic a,.imm b,ic c,ic d,sc e,sc f,ic g]] [] qmW nB:=⟨λo h v e=>evF (h v e)⟩
theorem ok52:∀ k s r,itS qfC k s=some r->P52 s r:=okU (And.intro @qu4 trivial)
instance {k:Nat} {a:Int} {b:Rs} {c d:Int} {e f:By} {g:Int}:EvI (g52 k a b c d e f g) 52 [.ag [ic a,.imm b,ic c,ic d,sc e,sc f,ic g]] [] qmW nB:=eI ok52
noncomputable def qj8 (k:Nat)(rec:S27->Option R27):S27->Option R27
 |.e a b c d e f=>rec (tg 9 (.h0 0 (b.length:Int) 0 a b c d e f))
 |.h0 a b c d e f g i j=>
  bif tg 9 (decide (c<b))then
   ixR e (tg 15 c) λl=>
   qE l λm n o p q t u=>
   (tg 17 (g52 k m n o p q t u)).bind λv=>
   bif tg 20 (decide (c>0))then
    rec (tg 17 (.h1 (wZ ((wZ (a+v))+1)) b c d e f g i j))
   else
    rec (tg 17 (.h1 (wZ (a+v)) b c d e f g i j))
  else
   some a
 |.h1 a b c d e f g i j=>rec (tg 1 (.h0 a b (wZ (c+1)) d e f g i j))
noncomputable def g27 (k:Nat)(a b:Rs)(c d:Int)(e:By)(f:Int):Option R27:=itS qj8 k (.e a b c d e f)
def P27:S27->R27->Prop
 |.e a b c d e f=>Fe Y27 qmW nB [.ag [.imm a,.imm b,ic c,ic d,sc e,ic f]] []
 |.h0 a b c d e f g i j=>Fk Y27 qmW nB [1,1,0,1,0,4] ([.deadv,pL 1,.deadv,cic a]++rd 3++[cic b,cic c]++rd 16) [(.loc 1,[.imm d,.imm e,ic f,ic g,sc i,ic j])]
 |.h1 a b c d e f g i j=>Fk Y27 qmW nB [1,1,0,1,0,0,1,1,1,2] ([.deadv,pL 1,.deadv,cic a]++rd 3++[cic b,cic c]++rd 16) [(.loc 1,[.imm d,.imm e,ic f,ic g,sc i,ic j])]
theorem ok27:∀ k s r,itS qj8 k s=some r->P27 s r:=okU (And.intro @qu4 trivial)
instance {k:Nat} {a b:Rs} {c d:Int} {e:By} {f:Int}:EvI (g27 k a b c d e f) 27 [.ag [.imm a,.imm b,ic c,ic d,sc e,ic f]] [] qmW nB:=eI ok27
def res8:R8->ARes
 |(a,b,c,d,e,f,g,i)=>.ret ⟨.tup [true,false,false],[[.imm a,.imm b,ic c,ic d,sc e,ic f],[ic g],[ic i]]⟩
noncomputable def qbD (k:Nat)(rec:S8->Option R8):S8->Option R8
 |.e a=>
  (tg 11 (g20 k a)).bind λb=>
  tup3 b λc d e=>
  bif tg 16 (e != 0)then
   rec (tg 10 (rg [] [(⟨⟨.loc 2,[]⟩,0,0⟩,none),(⟨⟨.loc 2,[]⟩,0,1⟩,none)] (.h0 d e [] [] 0 0 (strB []) 0)))
  else
   (tg 27 (g21 k (strB [80,65,84,84,69,82,78]) (qG c) 0 0 0 0 0 0 (strB []) 0)).bind λf=>
   tup4 f λg i j l=>
   rec (tg 14 (rg [] [(⟨⟨.loc 23,[]⟩,0,5⟩,some 1),(⟨⟨.loc 23,[]⟩,0,6⟩,some 7)] (.h1 g i 0 j l [] [] 0 0 (strB []) 0 0 0 (strB []) 0)))
 |.h0 a b c d e f g i=>some (c,d,e,f,g,i,a,b)
 |.h1 a b c d e f g i j l m n o p q=>
  (tg 29 (g22b k a b c d e f g i j l m)).bind λt=>
  tup6 t λu v w x y z=>
  rec (tg 4 (.h2 u v c w x y z i j l m n o p q))
 |.h2 a b c d e f g i j l m n o p q=>
  bif tg 35 (d==0)then
   (tg 40 (g23b k (strB [124]) a b c d e f g i j l m)).bind λt=>
   tup4 t λu v w x=>
   rec (tg 4 (.h3 u v b c d e w x i j l m n o p q))
  else
   rec (tg 4 (.h3 false a b c d e f g i j l m n o p q))
 |.h3 a b c d e f g i j l m n o p q t=>
  bif a then
   (tg 52 (g22b k b (wZ (c+1)) d e f g i j l m n)).bind λu=>
   tup6 u λv w x y z h=>
   rec (tg 7 (.h2 v w d x y z h j l m n o p q t))
  else
   (tg 54 (g24 k b c d e f g i j l m n)).bind λu=>
   tup6 u λv w x y z h=>
   (tg 56 (g25 k v w d x y z h j l m n)).bind λH=>
   ql H λc1 r s A B C D E F G=>
   bif tg 62 (s==0)then
    ixR c1 (tg 74 r) λI=>
    qaM I λJ _ _ _ _=>
    rec (tg 9 (.h4 (J != 0) c1 r d s A B C D E F G o p q t))
   else
    rec (tg 9 (.h4 false c1 r d s A B C D E F G o p q t))
 |.h4 a b c d e f g i j l m n o p q t=>
  bif a then
   (tg 82 (g26b k 13 b c d e f g i j l m n)).bind λu=>
   tup5 u λv w x y z=>
   rec (tg 2 (.h5 v c d w x y z j l m n o p q t))
  else
   rec (tg 2 (.h5 b c d e f g i j l m n o p q t))
 |.h5 _ _ _ a b c d e f g i ..=>
  bif tg 88 (a != 0)then
   rec (tg 6 (rg [23] [(⟨⟨.loc 2,[]⟩,0,0⟩,none),(⟨⟨.loc 2,[]⟩,0,1⟩,none)] (.h6 b a [] [] 0 0 (strB []) 0)))
  else
   (tg 104 (tg 2 (g27 k (qG c) (qG d) e f g i))).bind λj=>
   bif tg 105 (decide (j>200))then
    rec (tg 11 (rg [23] [(⟨⟨.loc 2,[]⟩,0,0⟩,none),(⟨⟨.loc 2,[]⟩,0,1⟩,none)] (.h7 0 2 [] [] 0 0 (strB []) 0)))
   else
    rec (tg 12 (rg [23] [] (.h8 0 0 (qG c) (qG d) e f g i)))
 |.h6 a b c d e f g i=>some (c,d,e,f,g,i,a,b)
 |.h7 a b c d e f g i=>some (c,d,e,f,g,i,a,b)
 |.h8 a b c d e f g i=>some (c,d,e,f,g,i,a,b)
noncomputable def g8 (k:Nat)(a:By):Option R8:=itS qbD k (.e a)
def P8:S8->R8->Prop
 |.e a=>Fe Y8 res8 nB [csc a] []
 |.h0 a b c d e f g i=>Fk Y8 res8 nB [1,1,0,1,0,1,2] ([.deadv,.deadv,pL 2,cic a,cic b]++rd 106) [(.loc 2,[.imm c,.imm d,ic e,ic f,sc g,ic i])]
 |.h1 a b c d e f g i j l m n o p q=>Fk Y8 res8 nB [1,1,1,1,1,0,2] ([.deadv,.deadv,pL 2]++rd 5++[pL 23]++rd 102) [(.loc 23,[.imm a,ic b,ic c,ic d,ic e,.own 1 f,.own 7 g,ic i,ic j,sc l,ic m]),(.loc 2,[.nil,.nil,ic n,ic o,sc p,ic q])]
 |.h2 a b c d e f g i j l m n o p q=>Fk Y8 res8 nB [1,1,1,1,1,1,0,0,4] ([.deadv,.deadv,pL 2]++rd 5++[pL 23]++rd 102) [(.loc 23,[.imm a,ic b,ic c,ic d,ic e,.own 1 f,.own 7 g,ic i,ic j,sc l,ic m]),(.loc 2,[.nil,.nil,ic n,ic o,sc p,ic q])]
 |.h3 a b c d e f g i j l m n o p q t=>Fk Y8 res8 nB [1,1,1,1,1,1,0,0,0,0,1,2] ([.deadv,.deadv,pL 2]++rd 5++[pL 23]++rd 32++[cbc a]++rd 69) [(.loc 23,[.imm b,ic c,ic d,ic e,ic f,.own 1 g,.own 7 i,ic j,ic l,sc m,ic n]),(.loc 2,[.nil,.nil,ic o,ic p,sc q,ic t])]
 |.h4 a b c d e f g i j l m n o p q t=>Fk Y8 res8 nB [1,1,1,1,1,1,1,1,1,0,1,2] ([.deadv,.deadv,pL 2]++rd 5++[pL 23]++rd 69++[cbc a]++rd 32) [(.loc 23,[.imm b,ic c,ic d,ic e,ic f,.own 1 g,.own 7 i,ic j,ic l,sc m,ic n]),(.loc 2,[.nil,.nil,ic o,ic p,sc q,ic t])]
 |.h5 a b c d e f g i j l m n o p q=>Fk Y8 res8 nB [1,1,1,1,1,1,1,1,1,1,2] ([.deadv,.deadv,pL 2]++rd 5++[pL 23]++rd 102) [(.loc 23,[.imm a,ic b,ic c,ic d,ic e,.own 1 f,.own 7 g,ic i,ic j,sc l,ic m]),(.loc 2,[.nil,.nil,ic n,ic o,sc p,ic q])]
 |.h6 a b c d e f g i=>Fk Y8 res8 nB [1,1,1,1,1,1,1,1,1,1,0,1,0,1,2] ([.deadv,.deadv,pL 2,cic a,cic b]++rd 106) [(.loc 2,[.imm c,.imm d,ic e,ic f,sc g,ic i])]
 |.h7 a b c d e f g i=>Fk Y8 res8 nB [1,1,1,1,1,1,1,1,1,1,1,0,1,0,1,2] ([.deadv,.deadv,pL 2,cic a,cic b]++rd 106) [(.loc 2,[.imm c,.imm d,ic e,ic f,sc g,ic i])]
 |.h8 a b c d e f g i=>Fk Y8 res8 nB [1,1,1,1,1,1,1,1,1,1,1,1,1,2] ([.deadv,.deadv,pL 2,cic a,cic b]++rd 106) [(.loc 2,[.imm c,.imm d,ic e,ic f,sc g,ic i])]
theorem ok8:∀ k s r,itS qbD k s=some r->P8 s r:=okU (And.intro @qvx trivial)
instance {k:Nat} {a:By}:EvI (g8 k a) 8 [csc a] [] res8 nB:=eI ok8
noncomputable def qwy (k:Nat)(rec:S72->Option R72):S72->Option R72
 |.e a=>rec (tg 7 (.h0 a a (a.length:Int) 0))
 |.h0 a b c d=>
  bif tg 9 (decide (d<c))then
   ixR b (tg 11 d) λe=>
   un_s e λf=>
   (tg 14 (g88 k f)).bind λg=>
   bif tg 15 (!g)then
    some true
   else
    rec (tg 19 (.h1 a d f 0 b c d))
  else
   some false
 |.h1 a b c d e f g=>
  bif tg 18 (decide (d<b))then
   ixR a (tg 23 d) λi=>
   un_s i λj=>
   bif tg 26 (j.toList==c.toList)then
    some true
   else
    rec (tg 14 (.h1 a b c (wZ (d+1)) e f g))
  else
   rec (tg 8 (.h0 a e f (wZ (g+1))))
noncomputable def g72 (k:Nat)(a:Rs):Option R72:=itS qwy k (.e a)
def P72:S72->R72->Prop
 |.e a=>Fe Y72 qtE nB [cm a] []
 |.h0 a b c d=>Fk Y72 qtE nB [1,0,1,0,4] ([cm a]++rd 5++[cm b,cic c,cic d]++rd 19) []
 |.h1 a b c d e f g=>Fk Y72 qtE nB [1,0,1,0,0,1,1,0,0,1,1,1,0,4] ([cm a,.deadv,.deadv,cic b,csc c,cic d,cm e,cic f,cic g]++rd 19) []
theorem ok72:∀ k s r,itS qwy k s=some r->P72 s r:=okU (And.intro @qCG trivial)
instance {k:Nat} {a:Rs}:EvI (g72 k a) 72 [cm a] [] qtE nB:=eI ok72
noncomputable def qfl (k:Nat)(rec:S37->Option R37):S37->Option R37
 |.e a b=>
  bif tg 17 (decide ((a.length:Int)>16))then
   rec (tg 11 (rg [] [(⟨⟨.slot 6,[]⟩,0,0⟩,some 1)] (.h0 true false false [] a (a.length:Int) 0 a b)))
  else
   rec (tg 11 (rg [] [(⟨⟨.slot 6,[]⟩,0,0⟩,some 1)] (.h0 (decide ((b.length:Int)>64)) false false [] a (a.length:Int) 0 a b)))
 |.h0 a b c d e f g i j=>
  bif tg 28 (decide (g<f))then
   ixR e (tg 29 g) λl=>
   qyV l λm n=>
   bif a then
    gd (tg 42 (apOk 16 1 d [[sc m]])) <|
    rec (tg 14 (rg [8] [] (.h1 true b c (d++[[sc m]]) e f g i j)))
   else
    gd (tg 42 (apOk 16 1 d [[sc m]])) <|
    rec (tg 14 (rg [8] [] (.h1 (decide ((n.length:Int)>8)) b c (d++[[sc m]]) e f g i j)))
  else
   bif a then
    some 2
   else
    rec (tg 16 (.h2 b c d i (i.length:Int) 0 i j))
 |.h1 a b c d e f g i j=>rec (tg 1 (.h0 a b c d e f (wZ (g+1)) i j))
 |.h2 a b c d e f g i=>
  bif tg 49 (decide (f<e))then
   ixR d (tg 50 f) λj=>
   qyV j λ_ l=>
   rec (tg 17 (rg [10] [(⟨⟨.slot 11,[]⟩,0,0⟩,some 1)] (.h3 a b c [] d e f l (l.length:Int) 0 g i)))
  else
   bif a then
    rec (tg 9 (rg [1] [] (.h4 b true)))
   else
    (tg 85 (tg 2 (g72 k (qG c)))).bind λm=>
    bif m then
     rec (tg 9 (rg [1] [] (.h4 b true)))
    else
     (tg 90 (g72 k i)).bind λn=>
     rec (tg 9 (rg [1] [] (.h4 b n)))
 |.h3 a b c d e f g i j l m n=>
  bif tg 56 (decide (l<j))then
   ixR i (tg 57 l) λo=>
   qBj o λp q=>
   gd (tg 63 (apOk 16 1 d [[sc p]])) <|
   bif b then
    rec (tg 14 (rg [13] [] (.h5 a true c (d++[[sc p]]) e f g i j l m n)))
   else
    bif tg 68 (decide (q<1))then
     rec (tg 14 (rg [13] [] (.h5 a true c (d++[[sc p]]) e f g i j l m n)))
    else
     rec (tg 14 (rg [13] [] (.h5 a (decide (q>4)) c (d++[[sc p]]) e f g i j l m n)))
  else
   bif a then
    rec (tg 8 (.h6 true b c e f g m n))
   else
    (tg 79 (tg 2 (g72 k (qG d)))).bind λt=>
    rec (tg 8 (.h6 t b c e f g m n))
 |.h4 a b=>
  bif b then
   some 10
  else
   bif a then
    some 11
   else
    some 0
 |.h5 a b c d e f g i j l m n=>rec (tg 1 (.h3 a b c d e f g i j (wZ (l+1)) m n))
 |.h6 a b c d e f g i=>rec (tg 1 (.h2 a b c d e (wZ (f+1)) g i))
noncomputable def g37 (k:Nat)(a b:Rs):Option R37:=itS qfl k (.e a b)
def P37:S37->R37->Prop
 |.e a b=>Fe Y37 qmW nB [.ag [.imm a,.imm b]] []
 |.h0 a b c d e f g i j=>Fk Y37 qmW nB [1,1,1,0,1,0,4] ([.deadv,pL 1,.deadv,cbc a,cbc b,cbc c,.c (.own 1 d)]++rd 18++[cm e,cic f,cic g]++rd 65) [(.loc 1,[.imm i,.imm j])]
 |.h1 a b c d e f g i j=>Fk Y37 qmW nB [1,1,1,0,1,0,0,1,1,1,2] ([.deadv,pL 1,.deadv,cbc a,cbc b,cbc c,.c (.own 1 d)]++rd 18++[cm e,cic f,cic g]++rd 65) [(.loc 1,[.imm i,.imm j])]
 |.h2 a b c d e f g i=>Fk Y37 qmW nB [1,1,1,1,1,0,1,0,4] ([.deadv,pL 1,.deadv,.deadv,cbc a,cbc b,.c (.own 1 c)]++rd 39++[cm d,cic e,cic f]++rd 44) [(.loc 1,[.imm g,.imm i])]
 |.h3 a b c d e f g i j l m n=>Fk Y37 qmW nB [1,1,1,1,1,0,1,0,0,1,1,0,0,1,1,0,1,0,4] ([.deadv,pL 1,.deadv,.deadv,cbc a,cbc b,.c (.own 1 c)]++rd 4++[.c (.own 1 d)]++rd 34++[cm e,cic f,cic g]++rd 4++[cm i,cic j,cic l]++rd 37) [(.loc 1,[.imm m,.imm n])]
 |.h4 a b=>Fk Y37 qmW nB [1,1,1,1,1,1,0,1,2] (rd 5++[cbc a]++rd 85++[cbc b,.deadv]) []
 |.h5 a b c d e f g i j l m n=>Fk Y37 qmW nB [1,1,1,1,1,0,1,0,0,1,1,0,0,1,1,0,1,0,0,1,1,1,2] ([.deadv,pL 1,.deadv,.deadv,cbc a,cbc b,.c (.own 1 c)]++rd 4++[.c (.own 1 d)]++rd 34++[cm e,cic f,cic g]++rd 4++[cm i,cic j,cic l]++rd 37) [(.loc 1,[.imm m,.imm n])]
 |.h6 a b c d e f g i=>Fk Y37 qmW nB [1,1,1,1,1,0,1,0,0,1,1,1,2] ([.deadv,pL 1,.deadv,.deadv,cbc a,cbc b,.c (.own 1 c)]++rd 39++[cm d,cic e,cic f]++rd 44) [(.loc 1,[.imm g,.imm i])]
theorem ok37:∀ k s r,itS qfl k s=some r->P37 s r:=okU (And.intro @qyU (And.intro @qxB trivial))
instance {k:Nat} {a b:Rs}:EvI (g37 k a b) 37 [.ag [.imm a,.imm b]] [] qmW nB:=eI ok37
noncomputable def qx7 (k:Nat)(rec:S137->Option R137):S137->Option R137
 |.e a b=>rec (tg 9 (.h0 a b 1 0))
 |.h0 a b c d=>
  bif tg 10 (decide (d<b))then
   rec (tg 11 (.h0 a b (wZ (c*10)) (wZ (d+1))))
  else
   gd (tg 17 (tg 1 (decide (c≠0)))) <|
   (tg 18 (g76 k (Int.tmod a c))).bind λe=>
   rec (tg 11 (.h1 a b c e))
 |.h1 a b c d=>
  bif tg 22 (decide ((d.size:Int)<b))then
   gd (tg 24 (decide ((strB [48]).size+d.size<=1000000000))) <|
   rec (tg 9 (.h1 a b c ((strB [48])++d)))
  else
   gd (tg 27 (tg 1 (decide (c≠0)))) <|
   (tg 28 (g76 k (wZ (Int.tdiv a c)))).bind λe=>
   gd (tg 29 (decide (e.size+(strB [46]).size<=1000000000))) <|
   gd (tg 31 (decide ((e++(strB [46])).size+d.size<=1000000000))) <|
   some ((e++(strB [46]))++d)
noncomputable def g137 (k:Nat)(a b:Int):Option R137:=itS qx7 k (.e a b)
def P137:S137->R137->Prop
 |.e a b=>Fe Y137 qwt nB [cic a,cic b] []
 |.h0 a b c d=>Fk Y137 qwt nB [1,1,0,1,0,4] ([cic a,cic b]++rd 3++[cic c,cic d]++rd 25) []
 |.h1 a b c d=>Fk Y137 qwt nB [1,1,1,1,0,0,4] ([cic a,cic b]++rd 3++[cic c,.deadv,csc d]++rd 24) []
theorem qF1:∀ k s r,itS qx7 k s=some r->P137 s r:=okU trivial
instance {k:Nat} {a b:Int}:EvI (g137 k a b) 137 [cic a,cic b] [] qwt nB:=eI qF1
noncomputable def qvd (k:Nat)(rec:S109->Option R109):S109->Option R109
 |.e a b c d e f g=>
  bif tg 16 (c==0)then
   bif tg 25 (a==6)then
    rec (tg 12 (.h0 0 (e.toList==(strB []).toList) (f.toList==(strB []).toList) (d==0) true a b c d e f g))
   else
    bif tg 29 (decide (a>=15))then
     rec (tg 12 (.h0 0 (e.toList==(strB []).toList) (f.toList==(strB []).toList) (d==0) (decide (a<=17)) a b c d e f g))
    else
     rec (tg 12 (.h0 0 (e.toList==(strB []).toList) (f.toList==(strB []).toList) (d==0) false a b c d e f g))
  else
   bif tg 25 (a==6)then
    rec (tg 12 (.h0 0 (e.toList==(strB []).toList) (f.toList==(strB []).toList) false true a b c d e f g))
   else
    bif tg 29 (decide (a>=15))then
     rec (tg 12 (.h0 0 (e.toList==(strB []).toList) (f.toList==(strB []).toList) false (decide (a<=17)) a b c d e f g))
    else
     rec (tg 12 (.h0 0 (e.toList==(strB []).toList) (f.toList==(strB []).toList) false false a b c d e f g))
 |.h0 a b c d e f g i j l m n=>
  bif e then
   rec (tg 3 (.h1 1 b c d f g i j l m n))
  else
   bif tg 39 (decide (f>=1))then
    rec (tg 3 (.h2 a b c d (decide (f<=14)) f g i j l m n))
   else
    rec (tg 3 (.h2 a b c d false f g i j l m n))
 |.h1 a b c d e f g i j l m=>
  bif tg 138 (!b)then
   rec (tg 3 (.h3 true e f g i j l m))
  else
   bif tg 141 (!c)then
    rec (tg 3 (.h3 true e f g i j l m))
   else
    bif tg 145 (!d)then
     rec (tg 3 (.h3 true e f g i j l m))
    else
     rec (tg 3 (.h3 ((f.length:Int)!=a) e f g i j l m))
 |.h2 a b c d e f g i j l m n=>
  bif e then
   rec (tg 3 (.h1 2 b c d f g i j l m n))
  else
   bif tg 48 (f==20)then
    bif tg 51 (decide (i>=0))then
     rec (tg 6 (.h1 a b c (j==0) f g i j l m n))
    else
     rec (tg 6 (.h1 a b c false f g i j l m n))
   else
    bif tg 60 (f==21)then
     bif tg 63 (decide (i>=0))then
      bif tg 67 (decide (j>=1))then
       bif tg 72 (decide (j<=14))then
        (tg 79 (g137 k i j)).bind λo=>
        rec (tg 9 (.h1 a b c (decide ((o.size:Int)<=16)) f g i j l m n))
       else
        rec (tg 9 (.h1 a b c false f g i j l m n))
      else
       rec (tg 9 (.h1 a b c false f g i j l m n))
     else
      rec (tg 9 (.h1 a b c false f g i j l m n))
    else
     bif tg 86 (f==22)then
      bif tg 89 (i==0)then
       rec (tg 12 (.h1 a b c (j==0) f g i j l m n))
      else
       bif tg 93 (i==1)then
        rec (tg 12 (.h1 a b c (j==0) f g i j l m n))
       else
        rec (tg 12 (.h1 a b c false f g i j l m n))
     else
      bif tg 103 (f==23)then
       rec (tg 12 (.h4 a c d true f g i j l m n))
      else
       rec (tg 12 (.h4 a c d (f==25) f g i j l m n))
 |.h3 a b c d e f g i=>
  bif a then
   some false
  else
   rec (tg 7 (.h5 (c.length:Int) 0 b c d e f g i))
 |.h4 a b c d e f g i j l m=>
  bif d then
   (tg 111 (g88 k j)).bind λn=>
   rec (tg 3 (.h1 a n b c e f g i j l m))
  else
   bif tg 115 (e==24)then
    rec (tg 3 (.h6 a c true e f g i j l m))
   else
    bif tg 119 (decide (e>=26))then
     rec (tg 3 (.h6 a c (decide (e<=31)) e f g i j l m))
    else
     rec (tg 3 (.h6 a c false e f g i j l m))
 |.h5 a b c d e f g i j=>
  bif tg 158 (decide (b<a))then
   ixR d (tg 163 b) λl=>
   qE l λm n o p q t u=>
   (tg 165 (rec (.e m n o p q t u))).bind λv=>
   bif tg 166 (!v)then
    some false
   else
    rec (tg 16 (.h5 a (wZ (b+1)) c d e f g i j))
  else
   some true
 |.h6 a b c d e f g i j l=>
  bif c then
   (tg 128 (g88 k i)).bind λm=>
   (tg 131 (g88 k j)).bind λn=>
   bif n then
    rec (tg 3 (.h1 a m true b d e f g i j l))
   else
    rec (tg 3 (.h1 a m (j.toList==(strB [84,73,77,69]).toList) b d e f g i j l))
  else
   some false
noncomputable def g109 (k:Nat)(a:Int)(b:Rs)(c d:Int)(e f:By)(g:Int):Option R109:=itS qvd k (.e a b c d e f g)
def P109:S109->R109->Prop
 |.e a b c d e f g=>Fe Y109 qtE nB [.ag [ic a,.imm b,ic c,ic d,sc e,sc f,ic g]] []
 |.h0 a b c d e f g i j l m n=>Fk Y109 qtE nB [1,1,1,1,0,0,1,2] ([.deadv,pL 1,.deadv,cic a,cbc b,cbc c,cbc d]++rd 15++[cbc e]++rd 145) [(.loc 1,[ic f,.imm g,ic i,ic j,sc l,sc m,ic n])]
 |.h1 a b c d e f g i j l m=>Fk Y109 qtE nB [1,1,1,1,1,2] ([.deadv,pL 1,.deadv,cic a,cbc b,cbc c,cbc d]++rd 161) [(.loc 1,[ic e,.imm f,ic g,ic i,sc j,sc l,ic m])]
 |.h2 a b c d e f g i j l m n=>Fk Y109 qtE nB [1,1,1,1,0,0,1,1,1,2] ([.deadv,pL 1,.deadv,cic a,cbc b,cbc c,cbc d]++rd 29++[cbc e]++rd 131) [(.loc 1,[ic f,.imm g,ic i,ic j,sc l,sc m,ic n])]
 |.h3 a b c d e f g i=>Fk Y109 qtE nB [1,1,1,1,1,0,1,2] ([.deadv,pL 1]++rd 151++[cbc a]++rd 14) [(.loc 1,[ic b,.imm c,ic d,ic e,sc f,sc g,ic i])]
 |.h4 a b c d e f g i j l m=>Fk Y109 qtE nB [1,1,1,1,0,0,1,1,1,1,1,1,1,1,1,1,1,2] ([.deadv,pL 1,.deadv,cic a,.deadv,cbc b,cbc c]++rd 93++[cbc d]++rd 67) [(.loc 1,[ic e,.imm f,ic g,ic i,sc j,sc l,ic m])]
 |.h5 a b c d e f g i j=>Fk Y109 qtE nB [1,1,1,1,1,1,0,1,0,4] ([.deadv,pL 1]++rd 154++[cic a,cic b]++rd 10) [(.loc 1,[ic c,.imm d,ic e,ic f,sc g,sc i,ic j])]
 |.h6 a b c d e f g i j l=>Fk Y109 qtE nB [1,1,1,1,0,0,1,1,1,1,1,1,1,1,1,1,1,1,1,2] ([.deadv,pL 1,.deadv,cic a,.deadv,.deadv,cbc b]++rd 105++[cbc c]++rd 55) [(.loc 1,[ic d,.imm e,ic f,ic g,sc i,sc j,ic l])]
instance {a:Int} {b:Rs} {c d:Int} {e f:By} {g:Int}:EvS P109 id (.e a b c d e f g) 109 [.ag [ic a,.imm b,ic c,ic d,sc e,sc f,ic g]] [] qtE nB:=⟨λo h v e=>evF (h v e)⟩
theorem qFU:∀ k s r,itS qvd k s=some r->P109 s r:=okU (And.intro @qu4 trivial)
instance {k:Nat} {a:Int} {b:Rs} {c d:Int} {e f:By} {g:Int}:EvI (g109 k a b c d e f g) 109 [.ag [ic a,.imm b,ic c,ic d,sc e,sc f,ic g]] [] qtE nB:=eI qFU
noncomputable def qsw (k:Nat)(rec:S73->Option R73):S73->Option R73
 |.e a b c d e f=>
  bif tg 12 (decide ((a.length:Int)>0))then
   bif tg 16 (decide (c>=1))then
    bif tg 21 (decide (c<=3))then
     bif tg 26 (decide (d>=0))then
      bif tg 31 (decide (d<=1152921504606846976))then
       bif tg 36 (e.toList==(strB []).toList)then
        rec (tg 9 (.h0 true a (a.length:Int) 0 a b c d e f))
       else
        (tg 40 (g88 k e)).bind λg=>
        rec (tg 9 (.h0 g a (a.length:Int) 0 a b c d e f))
      else
       rec (tg 9 (.h0 false a (a.length:Int) 0 a b c d e f))
     else
      rec (tg 9 (.h0 false a (a.length:Int) 0 a b c d e f))
    else
     rec (tg 9 (.h0 false a (a.length:Int) 0 a b c d e f))
   else
    rec (tg 9 (.h0 false a (a.length:Int) 0 a b c d e f))
  else
   rec (tg 9 (.h0 false a (a.length:Int) 0 a b c d e f))
 |.h0 a b c d e f g i j l=>
  bif tg 47 (decide (d<c))then
   ixR b (tg 48 d) λm=>
   un_m m λn=>
   bif a then
    rec (tg 16 (.h1 (decide ((n.length:Int)>0)) b c d n (n.length:Int) 0 e f g i j l))
   else
    rec (tg 16 (.h1 false b c d n (n.length:Int) 0 e f g i j l))
  else
   rec (tg 11 (.h2 a (f.length:Int) 0 e f g i j l))
 |.h1 a b c d e f g i j l m n o=>
  bif tg 59 (decide (g<f))then
   ixR e (tg 60 g) λp=>
   qxj p λq t u _=>
   bif a then
    bif tg 66 (decide (q>=1))then
     bif tg 71 (decide (q<=3))then
      (tg 76 (g88 k t)).bind λv=>
      bif v then
       (tg 81 (g88 k u)).bind λw=>
       rec (tg 12 (rg [7] [] (.h3 w b c d e f g i j l m n o)))
      else
       rec (tg 12 (rg [7] [] (.h3 false b c d e f g i j l m n o)))
     else
      rec (tg 12 (rg [7] [] (.h3 false b c d e f g i j l m n o)))
    else
     rec (tg 12 (rg [7] [] (.h3 false b c d e f g i j l m n o)))
   else
    rec (tg 12 (rg [7] [] (.h3 false b c d e f g i j l m n o)))
  else
   rec (tg 8 (.h0 a b c (wZ (d+1)) i j l m n o))
 |.h2 a b c d e f g i j=>
  bif tg 89 (decide (c<b))then
   bif a then
    ixR e (tg 96 c) λl=>
    qE l λm n o p q t u=>
    bif tg 99 (m != 13)then
     ag 1 105 <|
     (tg 107 (g109 k m n o p q t u)).bind λv=>
     rec (tg 12 (.h4 v b c d e f g i j))
    else
     rec (tg 12 (.h4 false b c d e f g i j))
   else
    rec (tg 12 (.h4 false b c d e f g i j))
  else
   some a
 |.h3 a b c d e f g i j l m n o=>rec (tg 1 (.h1 a b c d e f (wZ (g+1)) i j l m n o))
 |.h4 a b c d e f g i j=>rec (tg 1 (.h2 a b (wZ (c+1)) d e f g i j))
noncomputable def g73 (k:Nat)(a b:Rs)(c d:Int)(e:By)(f:Int):Option R73:=itS qsw k (.e a b c d e f)
def P73:S73->R73->Prop
 |.e a b c d e f=>Fe Y73 qtE nB [.ag [.imm a,.imm b,ic c,ic d,sc e,ic f]] []
 |.h0 a b c d e f g i j l=>Fk Y73 qtE nB [1,1,0,1,0,4] ([.deadv,pL 1,.deadv,cbc a]++rd 40++[cm b,cic c,cic d]++rd 64) [(.loc 1,[.imm e,.imm f,ic g,ic i,sc j,ic l])]
 |.h1 a b c d e f g i j l m n o=>Fk Y73 qtE nB [1,1,0,1,0,0,1,1,0,0,1,1,1,0,4] ([.deadv,pL 1,.deadv,cbc a]++rd 40++[cm b,cic c,cic d]++rd 9++[cm e,cic f,cic g]++rd 52) [(.loc 1,[.imm i,.imm j,ic l,ic m,sc n,ic o])]
 |.h2 a b c d e f g i j=>Fk Y73 qtE nB [1,1,1,0,1,0,4] ([.deadv,pL 1,.deadv,cbc a]++rd 83++[cic b,cic c]++rd 22) [(.loc 1,[.imm d,.imm e,ic f,ic g,sc i,ic j])]
 |.h3 a b c d e f g i j l m n o=>Fk Y73 qtE nB [1,1,0,1,0,0,1,1,0,0,1,1,1,0,0,1,1,1,2] ([.deadv,pL 1,.deadv,cbc a]++rd 40++[cm b,cic c,cic d]++rd 9++[cm e,cic f,cic g]++rd 52) [(.loc 1,[.imm i,.imm j,ic l,ic m,sc n,ic o])]
 |.h4 a b c d e f g i j=>Fk Y73 qtE nB [1,1,1,0,1,0,0,1,1,1,2] ([.deadv,pL 1,.deadv,cbc a]++rd 83++[cic b,cic c]++rd 22) [(.loc 1,[.imm d,.imm e,ic f,ic g,sc i,ic j])]
theorem ok73:∀ k s r,itS qsw k s=some r->P73 s r:=okU (And.intro @qu4 (And.intro @qxk (And.intro @qAq trivial)))
instance {k:Nat} {a b:Rs} {c d:Int} {e:By} {f:Int}:EvI (g73 k a b c d e f) 73 [.ag [.imm a,.imm b,ic c,ic d,sc e,ic f]] [] qtE nB:=eI ok73
noncomputable def qv4 (k:Nat)(rec:S110->Option R110):S110->Option R110
 |.e a=>
  bif tg 5 (a==14)then
   some 1
  else
   bif tg 8 (a==13)then
    some 2
   else
    bif tg 11 (a==15)then
     some 3
    else
     bif tg 14 (decide (a>=7))then
      rec (tg 15 (.h0 a (decide (a<=12))))
     else
      rec (tg 15 (.h0 a false))
 |.h0 a b=>
  bif b then
   some 4
  else
   bif tg 21 (a==1)then
    rec (tg 3 (.h1 a true))
   else
    rec (tg 3 (.h1 a (a==2)))
 |.h1 a b=>
  bif b then
   some 5
  else
   bif tg 28 (decide (a>=3))then
    rec (tg 3 (.h2 a (decide (a<=5))))
   else
    rec (tg 3 (.h2 a false))
 |.h2 a b=>
  bif b then
   some 6
  else
   bif tg 35 (a==6)then
    some 7
   else
    some 8
noncomputable def g110 (k:Nat)(a:Int):Option R110:=itS qv4 k (.e a)
def P110:S110->R110->Prop
 |.e a=>Fe Y110 qmW nB [cic a] []
 |.h0 a b=>Fk Y110 qmW nB [1,0,0,1,1,1,1,1,1,1,2] ([cic a]++rd 11++[cbc b]++rd 23) []
 |.h1 a b=>Fk Y110 qmW nB [1,0,0,1,1,1,1,1,1,1,1,1,2] ([cic a]++rd 18++[cbc b]++rd 16) []
 |.h2 a b=>Fk Y110 qmW nB [1,0,0,1,1,1,1,1,1,1,1,1,1,1,2] ([cic a]++rd 25++[cbc b]++rd 9) []
theorem qFV:∀ k s r,itS qv4 k s=some r->P110 s r:=okU trivial
instance {k:Nat} {a:Int}:EvI (g110 k a) 110 [cic a] [] qmW nB:=eI qFV
noncomputable def qAa (k:Nat)(rec:S112->Option R112):S112->Option R112
 |.e a _ b c d e ..=>
  bif tg 6 (a==20)then
   (tg 9 (g76 k b)).bind λf=>
   some f
  else
   bif tg 11 (a==21)then
    (tg 16 (g137 k b c)).bind λg=>
    some g
   else
    bif tg 18 (a==22)then
     bif tg 21 (b==1)then
      some (strB [84,82,85,69])
     else
      some (strB [70,65,76,83,69])
    else
     bif tg 23 (a==23)then
      gd (tg 26 (decide ((strB [39]).size+d.size<=1000000000))) <|
      gd (tg 27 (decide (((strB [39])++d).size+(strB [39]).size<=1000000000))) <|
      some (((strB [39])++d)++(strB [39]))
     else
      bif tg 29 (a==24)then
       gd (tg 32 (decide (d.size+(strB [46]).size<=1000000000))) <|
       gd (tg 35 (decide ((d++(strB [46])).size+e.size<=1000000000))) <|
       some ((d++(strB [46]))++e)
      else
       bif tg 37 (a==25)then
        gd (tg 40 (decide ((strB [67,79,85,78,84,40]).size+d.size<=1000000000))) <|
        gd (tg 41 (decide (((strB [67,79,85,78,84,40])++d).size+(strB [41]).size<=1000000000))) <|
        some (((strB [67,79,85,78,84,40])++d)++(strB [41]))
       else
        (tg 42 (g138 k)).bind λi=>
        ixR i (tg 46 (tg 3 (wZ (a-25)))) λj=>
        un_s j λl=>
        gd (tg 48 (decide (l.size+(strB [40]).size<=1000000000))) <|
        gd (tg 51 (decide ((l++(strB [40])).size+d.size<=1000000000))) <|
        gd (tg 52 (decide (((l++(strB [40]))++d).size+(strB [46]).size<=1000000000))) <|
        gd (tg 55 (decide ((((l++(strB [40]))++d)++(strB [46])).size+e.size<=1000000000))) <|
        gd (tg 56 (decide (((((l++(strB [40]))++d)++(strB [46]))++e).size+(strB [41]).size<=1000000000))) <|
        some (((((l++(strB [40]))++d)++(strB [46]))++e)++(strB [41]))
noncomputable def g112 (k:Nat)(a:Int)(b:Rs)(c d:Int)(e f:By)(g:Int):Option R112:=itS qAa k (.e a b c d e f g)
def P112:S112->R112->Prop
 |.e a b c d e f g=>Fe Y112 qwt nB [.ag [ic a,.imm b,ic c,ic d,sc e,sc f,ic g]] []
theorem qFX:∀ k s r,itS qAa k s=some r->P112 s r:=okU (And.intro @qwn trivial)
instance {k:Nat} {a:Int} {b:Rs} {c d:Int} {e f:By} {g:Int}:EvI (g112 k a b c d e f g) 112 [.ag [ic a,.imm b,ic c,ic d,sc e,sc f,ic g]] [] qwt nB:=eI qFX
def qtP:R75->ARes
 |(a,b)=>.ret ⟨.tup [false,false],[[sc a],[ic b]]⟩
noncomputable def qrC (k:Nat)(rec:S75->Option R75):S75->Option R75
 |.e a b c d e f g=>
  (tg 15 (g110 k a)).bind λi=>
  rec (tg 13 (rg [] [(⟨⟨.slot 5,[]⟩,0,0⟩,some 1)] (.h0 i [] 0 (b.length:Int) 0 a b c d e f g)))
 |.h0 a b c d e f g i j l m n=>
  bif tg 20 (decide (e<d))then
   ixR g (tg 26 e) λo=>
   qE o λp q t u v w x=>
   (tg 28 (rec (.e p q t u v w x))).bind λy=>
   tup2 y λz A=>
   bif tg 33 (a==8)then
    rec (tg 19 (.h1 a b c e z A 1 d e f g i j l m n))
   else
    rec (tg 19 (.h1 a b c e z A a d e f g i j l m n))
  else
   bif tg 67 ((b.length:Int)==2)then
    (tg 70 (g111 k a)).bind λE=>
    tup2 E λc1 F=>
    ixR b (tg 74 (tg 3 0)) λs=>
    un_s s λh=>
    gd (tg 76 (decide (h.size+(strB [32]).size<=1000000000))) <|
    ixR c1 (tg 82 (tg 3 (wZ (f-F)))) λG=>
    un_s G λr=>
    gd (tg 84 (decide ((h++(strB [32])).size+r.size<=1000000000))) <|
    gd (tg 85 (decide (((h++(strB [32]))++r).size+(strB [32]).size<=1000000000))) <|
    ixR b (tg 87 (tg 3 1)) λH=>
    un_s H λB=>
    gd (tg 89 (decide ((((h++(strB [32]))++r)++(strB [32])).size+B.size<=1000000000))) <|
    some (((((h++(strB [32]))++r)++(strB [32]))++B),c)
   else
    bif tg 94 (f==6)then
     ixR b (tg 96 (tg 3 0)) λI=>
     un_s I λC=>
     gd (tg 98 (decide ((strB [45]).size+C.size<=1000000000))) <|
     some (((strB [45])++C),wZ (c+1))
    else
     bif tg 104 (f==15)then
      ixR b (tg 106 (tg 3 0)) λJ=>
      un_s J λD=>
      gd (tg 108 (decide ((strB [78,79,84,32]).size+D.size<=1000000000))) <|
      some (((strB [78,79,84,32])++D),wZ (c+1))
     else
      bif tg 114 (f==16)then
       ixR b (tg 116 (tg 3 0)) λs=>
       un_s s λh=>
       gd (tg 118 (decide ((strB [82,69,65,76,40]).size+h.size<=1000000000))) <|
       gd (tg 119 (decide (((strB [82,69,65,76,40])++h).size+(strB [41]).size<=1000000000))) <|
       some ((((strB [82,69,65,76,40])++h)++(strB [41])),wZ (c+1))
      else
       bif tg 125 (f==17)then
        ixR b (tg 127 (tg 3 0)) λK=>
        un_s K λt1=>
        gd (tg 129 (decide ((strB [73,83,78,65,78,40]).size+t1.size<=1000000000))) <|
        gd (tg 130 (decide (((strB [73,83,78,65,78,40])++t1).size+(strB [41]).size<=1000000000))) <|
        some ((((strB [73,83,78,65,78,40])++t1)++(strB [41])),wZ (c+1))
       else
        (tg 134 (g112 k f g i j l m n)).bind λL=>
        some (L,0)
 |.h1 a b c d e f g i j l m n o p q t=>
  bif tg 35 (a==4)then
   rec (tg 3 (.h2 a b c d e f g i j true l m n o p q t))
  else
   rec (tg 3 (.h2 a b c d e f g i j (d==1) l m n o p q t))
 |.h2 a b c d e f g i j l m n o p q t u=>
  bif l then
   rec (tg 2 (.h3 a b c d e f (wZ (a+1)) i j m n o p q t u))
  else
   rec (tg 2 (.h3 a b c d e f g i j m n o p q t u))
 |.h3 a b c d e f g i j l m n o p q t=>
  ixR m (tg 45 d) λu=>
  qE u λv _ _ _ _ _ _=>
  (tg 48 (g110 k v)).bind λw=>
  bif tg 50 (decide (w<g))then
   gd (tg 52 (decide ((strB [40]).size+e.size<=1000000000))) <|
   gd (tg 53 (decide (((strB [40])++e).size+(strB [41]).size<=1000000000))) <|
   rec (tg 5 (.h4 a b c (((strB [40])++e)++(strB [41])) (wZ (f+1)) i j l m n o p q t))
  else
   rec (tg 5 (.h4 a b c e f i j l m n o p q t))
 |.h4 a b c d e f g i j l m n o p=>
  gd (tg 59 (apOk 16 1 b [[sc d]])) <|
  rec (tg 5 (.h0 a (b++[[sc d]]) (if (e:Int)>c then e else c) f (wZ (g+1)) i j l m n o p))
noncomputable def g75 (k:Nat)(a:Int)(b:Rs)(c d:Int)(e f:By)(g:Int):Option R75:=itS qrC k (.e a b c d e f g)
def P75:S75->R75->Prop
 |.e a b c d e f g=>Fe Y75 qtP nB [.ag [ic a,.imm b,ic c,ic d,sc e,sc f,ic g]] []
 |.h0 a b c d e f g i j l m n=>Fk Y75 qtP nB [1,1,1,1,0,1,0,4] ([.deadv,pL 1,.deadv,.deadv,cic a,.c (.own 1 b),cic c]++rd 11++[cic d,cic e]++rd 115) [(.loc 1,[ic f,.imm g,ic i,ic j,sc l,sc m,ic n])]
 |.h1 a b c d e f g i j l m n o p q t=>Fk Y75 qtP nB [1,1,1,1,0,1,0,0,1,1,0,0,1,1,1,1,2] ([.deadv,pL 1,.deadv,.deadv,cic a,.c (.own 1 b),cic c,cic d,csc e,cic f,cic g]++rd 7++[cic i,cic j]++rd 115) [(.loc 1,[ic l,.imm m,ic n,ic o,sc p,sc q,ic t])]
 |.h2 a b c d e f g i j l m n o p q t u=>Fk Y75 qtP nB [1,1,1,1,0,1,0,0,1,1,0,0,1,1,1,1,0,1,2] ([.deadv,pL 1,.deadv,.deadv,cic a,.c (.own 1 b),cic c,cic d,csc e,cic f,cic g]++rd 7++[cic i,cic j]++rd 19++[cbc l]++rd 95) [(.loc 1,[ic m,.imm n,ic o,ic p,sc q,sc t,ic u])]
 |.h3 a b c d e f g i j l m n o p q t=>Fk Y75 qtP nB [1,1,1,1,0,1,0,0,1,1,0,0,1,1,1,1,1,2] ([.deadv,pL 1,.deadv,.deadv,cic a,.c (.own 1 b),cic c,cic d,csc e,cic f,cic g]++rd 7++[cic i,cic j]++rd 115) [(.loc 1,[ic l,.imm m,ic n,ic o,sc p,sc q,ic t])]
 |.h4 a b c d e f g i j l m n o p=>Fk Y75 qtP nB [1,1,1,1,0,1,0,0,1,1,0,0,1,1,1,1,1,1,2] ([.deadv,pL 1,.deadv,.deadv,cic a,.c (.own 1 b),cic c,.deadv,csc d,cic e]++rd 8++[cic f,cic g]++rd 115) [(.loc 1,[ic i,.imm j,ic l,ic m,sc n,sc o,ic p])]
instance {a:Int} {b:Rs} {c d:Int} {e f:By} {g:Int}:EvS P75 id (.e a b c d e f g) 75 [.ag [ic a,.imm b,ic c,ic d,sc e,sc f,ic g]] [] qtP nB:=⟨λo h v e=>evF (h v e)⟩
theorem ok75:∀ k s r,itS qrC k s=some r->P75 s r:=okU (And.intro @qu4 (And.intro @qwn trivial))
instance {k:Nat} {a:Int} {b:Rs} {c d:Int} {e f:By} {g:Int}:EvI (g75 k a b c d e f g) 75 [.ag [ic a,.imm b,ic c,ic d,sc e,sc f,ic g]] [] qtP nB:=eI ok75
noncomputable def qpu (k:Nat)(rec:S74->Option R74):S74->Option R74
 |.e a=>rec (tg 9 (.h0 (strB [83,69,81,40]) a (a.length:Int) 0))
 |.h0 a b c d=>
  bif tg 9 (decide (d<c))then
   ixR b (tg 11 d) λe=>
   qxj e λf g i j=>
   bif tg 14 (decide (d>0))then
    gd (tg 16 (decide (a.size+(strB [44,32]).size<=1000000000))) <|
    rec (tg 15 (.h1 (a++(strB [44,32])) b c d f g i j))
   else
    rec (tg 15 (.h1 a b c d f g i j))
  else
   gd (tg 38 (decide (a.size+(strB [41]).size<=1000000000))) <|
   some (a++(strB [41]))
 |.h1 a b c d e f g i=>
  bif tg 19 (e==3)then
   gd (tg 21 (decide (a.size+(strB [33]).size<=1000000000))) <|
   rec (tg 5 (.h2 (a++(strB [33])) b c d e f g i))
  else
   rec (tg 5 (.h2 a b c d e f g i))
 |.h2 a b c d e f g i=>
  gd (tg 25 (decide (a.size+f.size<=1000000000))) <|
  bif tg 28 (e==2)then
   gd (tg 30 (decide ((a++f).size+(strB [43]).size<=1000000000))) <|
   rec (tg 7 (.h3 ((a++f)++(strB [43])) b c d e f g i))
  else
   rec (tg 7 (.h3 (a++f) b c d e f g i))
 |.h3 a b c d _ _ e ..=>
  gd (tg 34 (decide ((strB [32]).size+e.size<=1000000000))) <|
  gd (tg 35 (decide (a.size+((strB [32])++e).size<=1000000000))) <|
  rec (tg 3 (rg [5] [] (.h0 (a++((strB [32])++e)) b c (wZ (d+1)))))
noncomputable def g74 (k:Nat)(a:Rs):Option R74:=itS qpu k (.e a)
def P74:S74->R74->Prop
 |.e a=>Fe Y74 qwt nB [cm a] []
 |.h0 a b c d=>Fk Y74 qwt nB [1,1,0,1,0,4] (rd 3++[csc a,.deadv,.deadv,cm b,cic c,cic d]++rd 30) []
 |.h1 a b c d e f g i=>Fk Y74 qwt nB [1,1,0,1,0,0,1,1,0,0,1,1,2] (rd 3++[csc a,.deadv,pL 5,cm b,cic c,cic d]++rd 30) [(.loc 5,[ic e,sc f,sc g,ic i])]
 |.h2 a b c d e f g i=>Fk Y74 qwt nB [1,1,0,1,0,0,1,1,0,0,1,1,1,2] (rd 3++[csc a,.deadv,pL 5,cm b,cic c,cic d]++rd 30) [(.loc 5,[ic e,sc f,sc g,ic i])]
 |.h3 a b c d e f g i=>Fk Y74 qwt nB [1,1,0,1,0,0,1,1,0,0,1,1,1,1,1,2] (rd 3++[csc a,.deadv,pL 5,cm b,cic c,cic d]++rd 30) [(.loc 5,[ic e,sc f,sc g,ic i])]
theorem ok74:∀ k s r,itS qpu k s=some r->P74 s r:=okU (And.intro @qxk trivial)
instance {k:Nat} {a:Rs}:EvI (g74 k a) 74 [cm a] [] qwt nB:=eI ok74
noncomputable def qpb (k:Nat)(rec:S38->Option R38):S38->Option R38
 |.e a b c d e f=>
  (tg 12 (g73 k a b c d e f)).bind λg=>
  bif tg 13 (!g)then
   some (strB [],3)
  else
   bif tg 17 (decide ((a.length:Int)>4))then
    rec (tg 10 (.h0 true a b c d e f))
   else
    (tg 20 (g27 k a b c d e f)).bind λi=>
    rec (tg 10 (.h0 (decide (i>200)) a b c d e f))
 |.h0 a b c d e f g=>
  bif a then
   some (strB [],2)
  else
   rec (tg 9 (.h1 (strB [80,65,84,84,69,82,78,32]) b (b.length:Int) 0 b c d e f g))
 |.h1 a b c d e f g i j l=>
  bif tg 27 (decide (d<c))then
   ixR b (tg 29 d) λm=>
   un_m m λn=>
   bif tg 33 (decide ((n.length:Int)>8))then
    some (strB [],2)
   else
    bif tg 35 (decide (d>0))then
     gd (tg 37 (decide (a.size+(strB [32,124,32]).size<=1000000000))) <|
     rec (tg 20 (.h2 (a++(strB [32,124,32])) n b c d e f g i j l))
    else
     rec (tg 20 (.h2 a n b c d e f g i j l))
  else
   rec (tg 13 (.h3 a 0 (f.length:Int) 0 e f g i j l))
 |.h2 a b c d e f g i j l m=>
  (tg 40 (g74 k b)).bind λn=>
  gd (tg 41 (decide (a.size+n.size<=1000000000))) <|
  rec (tg 3 (.h1 (a++n) c d (wZ (e+1)) f g i j l m))
 |.h3 a b c d e f g i j l=>
  bif tg 47 (decide (d<c))then
   ixR f (tg 53 d) λm=>
   qE m λn o p q t u v=>
   (tg 55 (g75 k n o p q t u v)).bind λw=>
   tup2 w λx y=>
   bif tg 61 (decide ((f.length:Int)>1))then
    ag 2 66 <|
    rec (tg 15 (.h4 a b d x y c d (n==14) e f g i j l))
   else
    rec (tg 15 (.h4 a b d x y c d false e f g i j l))
  else
   ixR [[sc (strB [83,84,82,73,67,84])],[sc (strB [78,69,88,84])],[sc (strB [65,78,89])]] (tg 94 (tg 3 (wZ (g-1)))) λm=>
   un_s m λz=>
   gd (tg 96 (decide ((strB [32,83,84,82,65,84,69,71,89,32]).size+z.size<=1000000000))) <|
   gd (tg 97 (decide (((strB [32,83,84,82,65,84,69,71,89,32])++z).size+(strB [32,87,73,84,72,73,78,32]).size<=1000000000))) <|
   (tg 100 (g76 k i)).bind λh=>
   gd (tg 101 (decide ((((strB [32,83,84,82,65,84,69,71,89,32])++z)++(strB [32,87,73,84,72,73,78,32])).size+h.size<=1000000000))) <|
   gd (tg 102 (decide (a.size+((((strB [32,83,84,82,65,84,69,71,89,32])++z)++(strB [32,87,73,84,72,73,78,32]))++h).size<=1000000000))) <|
   bif tg 105 (!(j.toList==(strB []).toList))then
    gd (tg 109 (decide ((strB [32,80,65,82,84,73,84,73,79,78,32,66,89,32]).size+j.size<=1000000000))) <|
    gd (tg 110 (decide ((a++((((strB [32,83,84,82,65,84,69,71,89,32])++z)++(strB [32,87,73,84,72,73,78,32]))++h)).size+((strB [32,80,65,82,84,73,84,73,79,78,32,66,89,32])++j).size<=1000000000))) <|
    rec (tg 13 (rg [1] [] (.h5 ((a++((((strB [32,83,84,82,65,84,69,71,89,32])++z)++(strB [32,87,73,84,72,73,78,32]))++h))++((strB [32,80,65,82,84,73,84,73,79,78,32,66,89,32])++j)) b)))
   else
    rec (tg 13 (rg [1] [] (.h5 (a++((((strB [32,83,84,82,65,84,69,71,89,32])++z)++(strB [32,87,73,84,72,73,78,32]))++h)) b)))
 |.h4 a b c d e f g i j l m n o p=>
  bif i then
   gd (tg 72 (decide ((strB [40]).size+d.size<=1000000000))) <|
   gd (tg 73 (decide (((strB [40])++d).size+(strB [41]).size<=1000000000))) <|
   rec (tg 2 (.h6 a b c (((strB [40])++d)++(strB [41])) (wZ (e+1)) f g j l m n o p))
  else
   rec (tg 2 (.h6 a b c d e f g j l m n o p))
 |.h5 a b=>
  bif tg 113 (decide ((a.size:Int)>4000))then
   some (strB [],2)
  else
   bif tg 115 (decide (b>30))then
    some (strB [],14)
   else
    some (a,0)
 |.h6 a b c d e f g i j l m n o=>
  ixR [[sc (strB [32,87,72,69,82,69,32])],[sc (strB [32,65,78,68,32])]] (tg 80 (tg 3 (if (1:Int)<c then 1 else c))) λp=>
  un_s p λq=>
  gd (tg 83 (decide (q.size+d.size<=1000000000))) <|
  gd (tg 84 (decide (a.size+(q++d).size<=1000000000))) <|
  rec (tg 5 (.h3 (a++(q++d)) (if (e:Int)>b then e else b) f (wZ (g+1)) i j l m n o))
noncomputable def g38 (k:Nat)(a b:Rs)(c d:Int)(e:By)(f:Int):Option R38:=itS qpb k (.e a b c d e f)
def P38:S38->R38->Prop
 |.e a b c d e f=>Fe Y38 qtP nB [.ag [.imm a,.imm b,ic c,ic d,sc e,ic f]] []
 |.h0 a b c d e f g=>Fk Y38 qtP nB [1,1,0,1,2] ([.deadv,pL 1]++rd 20++[cbc a]++rd 94) [(.loc 1,[.imm b,.imm c,ic d,ic e,sc f,ic g])]
 |.h1 a b c d e f g i j l=>Fk Y38 qtP nB [1,1,1,1,0,1,0,4] ([.deadv,pL 1,.deadv,.deadv,csc a]++rd 19++[cm b,cic c,cic d]++rd 90) [(.loc 1,[.imm e,.imm f,ic g,ic i,sc j,ic l])]
 |.h2 a b c d e f g i j l m=>Fk Y38 qtP nB [1,1,1,1,0,1,0,0,1,1,0,0,1,1,1,2] ([.deadv,pL 1,.deadv,.deadv,csc a,.deadv,cm b]++rd 17++[cm c,cic d,cic e]++rd 90) [(.loc 1,[.imm f,.imm g,ic i,ic j,sc l,ic m])]
 |.h3 a b c d e f g i j l=>Fk Y38 qtP nB [1,1,1,1,1,1,0,1,0,4] ([.deadv,pL 1,.deadv,.deadv,csc a,.deadv,.deadv,cic b]++rd 37++[cic c,cic d]++rd 70) [(.loc 1,[.imm e,.imm f,ic g,ic i,sc j,ic l])]
 |.h4 a b c d e f g i j l m n o p=>Fk Y38 qtP nB [1,1,1,1,1,1,0,1,0,0,1,1,0,0,1,1,0,1,2] ([.deadv,pL 1,.deadv,.deadv,csc a,.deadv,.deadv,cic b,cic c,csc d,cic e]++rd 34++[cic f,cic g]++rd 23++[cbc i]++rd 46) [(.loc 1,[.imm j,.imm l,ic m,ic n,sc o,ic p])]
 |.h5 a b=>Fk Y38 qtP nB [1,1,1,1,1,1,1,1,1,2] (rd 4++[csc a,.deadv,.deadv,cic b]++rd 109) []
 |.h6 a b c d e f g i j l m n o=>Fk Y38 qtP nB [1,1,1,1,1,1,0,1,0,0,1,1,0,0,1,1,1,2] ([.deadv,pL 1,.deadv,.deadv,csc a,.deadv,.deadv,cic b,cic c,csc d,cic e]++rd 34++[cic f,cic g]++rd 70) [(.loc 1,[.imm i,.imm j,ic l,ic m,sc n,ic o])]
theorem ok38:∀ k s r,itS qpb k s=some r->P38 s r:=okU (And.intro @qu4 (And.intro @qAq (And.intro @qwn trivial)))
instance {k:Nat} {a b:Rs} {c d:Int} {e:By} {f:Int}:EvI (g38 k a b c d e f) 38 [.ag [.imm a,.imm b,ic c,ic d,sc e,ic f]] [] qtP nB:=eI ok38
noncomputable def qAS (k:Nat)(rec:S77->Option R77):S77->Option R77
 |.e a _ b=>rec (tg 7 (rg [2] [] (.h0 b a (a.length:Int) 0)))
 |.h0 a b c d=>
  bif tg 11 (decide (d<c))then
   ixR b (tg 13 d) λe=>
   qyV e λf _=>
   bif tg 18 (f.toList==a.toList)then
    some d
   else
    rec (tg 16 (rg [6] [] (.h0 a b c (wZ (d+1)))))
  else
   some (-1)
noncomputable def g77 (k:Nat)(a b:Rs)(c:By):Option R77:=itS qAS k (.e a b c)
def P77:S77->R77->Prop
 |.e a b c=>Fe Y77 qmW nB [.ag [.imm a,.imm b],csc c] []
 |.h0 a b c d=>Fk Y77 qmW nB [1,0,1,0,4] ([.deadv,csc a]++rd 6++[cm b,cic c,cic d]++rd 10) []
theorem ok77:∀ k s r,itS qAS k s=some r->P77 s r:=okU (And.intro @qxB trivial)
instance {k:Nat} {a b:Rs} {c:By}:EvI (g77 k a b c) 77 [.ag [.imm a,.imm b],csc c] [] qmW nB:=eI ok77
end
end Ab
end Go.Proofs.YtnnhdcidgfjfpaaGreatDoor
