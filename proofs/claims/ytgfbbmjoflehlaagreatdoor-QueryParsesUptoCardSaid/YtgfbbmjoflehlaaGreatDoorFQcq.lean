/-
  Functions' ways, printed by a program: what each computes, and that this is what the interpreter computes.
-/
import Derived.Test.YtgfbbmjoflehlaaGreatDoorFQbq
import Derived.KernelRfl
set_option linter.all false
set_option maxRecDepth 10000
set_option maxHeartbeats 8000000
namespace Go.Proofs.YtgfbbmjoflehlaaGreatDoor
namespace Ab
variable [vo]
inductive S77 where
 |e_77 (a:Rs)(b c:Int)
 |h0_77 (a:Int)(b:Rs)(c d:Int)(e f:By)(g i j l:Int)(m n:By)(o:Int)(p:Rs)(q t:Int)
 |h1_77 (a:Int)(b:Rs)(c d:Int)(e f:By)(g i j l:Int)(m n:By)(o:Int)(p:Rs)(q t:Int)
 |e_100 (a:Rs)(b c:Int)
 |h0_100 (a:Int)(b:Rs)(c d:Int)(e f:By)(g i j l:Int)(m n:By)(o:Int)(p:Rs)(q t:Int)
 |h1_100 (a:Int)(b:Rs)(c d:Int)(e f:By)(g i j l:Int)(m n:By)(o:Int)(p:Rs)(q t:Int)
 |e_121 (a:Rs)(b c:Int)
 |e_135 (a:Rs)(b c:Int)
 |e_143 (a:Rs)(b c:Int)
 |h0_143 (a:Int)(b:Rs)(c d:Int)(e f:By)(g i j l:Int)(m n:By)(o:Int)(p:Rs)(q t:Int)
 |h1_143 (a:Int)(b:Rs)(c d:Int)(e f:By)(g i j l:Int)(m n:By)(o:Int)(p:Rs)(q t:Int)
 |e_146 (a:Rs)(b c:Int)
 |h0_146 (a:Int)(b:Rs)(c d:Int)(e f:By)(g i j l:Int)(m n:By)(o:Int)(p:Rs)(q t:Int)
 |h1_146 (a:Int)(b:Rs)(c d:Int)(e f:By)(g i j l:Int)(m n:By)(o:Int)(p:Rs)(q t:Int)
 |e_148 (a:Rs)(b c:Int)
 |h0_148 (a:Int)(b:Rs)(c d:Int)(e f:By)(g:Int)(i:Rs)(j l:Int)
 |h1_148 (a:Int)(b:Rs)(c d:Int)(e f:By)(g:Int)(i:Rs)(j l:Int)
 |h2_148 (a:Int)(b:Rs)(c d:Int)(e f:By)(g:Int)(i:Rs)(j l:Int)
 |e_151 (a:Rs)(b c:Int)
 |h0_151 (a:Int)(b:Rs)(c d:Int)(e f:By)(g:Int)(i:Rs)(j l:Int)
 |h1_151 (a:Int)(b:Rs)(c d:Int)(e f:By)(g:Int)(i:Rs)(j l:Int)
 |h2_151 (a:Int)(b:Rs)(c d:Int)(e f:By)(g:Int)(i:Rs)(j l:Int)
 |h3_151 (a:Int)(b:Rs)(c d:Int)(e f:By)(g:Int)(i:Rs)(j l:Int)
 |h4_151 (a:Int)(b:Rs)(c d:Int)(e f:By)(g:Int)(i:Rs)(j l:Int)
 |h5_151 (a:Int)(b:By)(c d e f g i:Int)(j l:By)(m:Int)(n:Rs)(o p:Int)
 |h6_151 (a:Int)(b:Rs)(c d:Int)(e f:By)(g:Int)(i:Rs)(j l:Int)
 |e_155 (a:Int)(b:By)(c d e:Int)(f:Rs)(g i:Int)
 |h0_155 (a:By)(b:Bool)(c d e:Int)(f g:By)(i j:Int)(l:By)(m n o:Int)(p:Rs)(q t:Int)
 |h1_155 (a b c d:Int)(e f:By)(g i:Int)(j:By)(l m n:Int)(o:Rs)(p q:Int)
 |h2_155 (a:Bool)(b c d:Int)(e f:By)(g i:Int)(j:By)(l m n:Int)(o:Rs)(p q:Int)
 |h3_155 (a:Int)(b:Rs)(c d:Int)(e f:By)(g:Int)(i:Rs)(j l:Int)
 |h4_155 (a:Int)(b:Rs)(c d:Int)(e f:By)(g:Int)(i:Rs)(j l:Int)
 |h5_155 (a:Int)(b:Rs)(c d:Int)(e f:By)(g:Int)(i:Rs)(j l:Int)
 |e_102 (a b:Int)(c:Rs)(d e:Int)(f g:By)(i:Int)(j:Rs)(l m:Int)
 |e_102b (a b:Int)(c:Rs)(d e:Int)(f g:By)(i:Int)(j:Rs)(l m:Int)
 |e_102c (a b:Int)(c:Rs)(d e:Int)(f g:By)(i:Int)(j:Rs)(l m:Int)
 |e_102d (a b:Int)(c:Rs)(d e:Int)(f g:By)(i:Int)(j:Rs)(l m:Int)
 |e_102e (a b:Int)(c:Rs)(d e:Int)(f g:By)(i:Int)(j:Rs)(l m:Int)
abbrev qvo:=(Int×Int×Rs×Int×Int)⊕(Int×Rs×Int×Int×By×By×Int×Rs×Int×Int)
abbrev qwp:=qvo
abbrev qvG:=(Int×Int×Rs×Int×Int)⊕(Int×Rs×Int×Int×By×By×Int×Rs×Int×Int)⊕(Int×Rs×Int×Int×By×By×Int×Rs×Int×Int)
abbrev qwr:=qvo
abbrev qws:=qvo
abbrev qwt:=qvo
abbrev qwu:=qvG
abbrev qwv:=qvG
abbrev qww:=qvo
abbrev qwq:=qvo
abbrev qv3:=qvo
abbrev qv4:=qvo
abbrev qv5:=qvo
abbrev qv6:=qvo
abbrev R77:=qvo⊕qwp⊕qvG⊕qwr⊕qws⊕qwt⊕qwu⊕qwv⊕qww⊕qwq⊕qv3⊕qv4⊕qv5⊕qv6
def qwB (o:Option R77):Option qvo:=o.bind fun|(.inl x)=>some x|_=>none
theorem qyK {o:Option R77}{v:qvo}(h:qwB o=some v):o=some (.inl v):=by
 cases o with
 |none=>cases h
 |some r=>
  unfold qwB at h;simp only[ae]at h;split at h
  . injection h with h;rw[h]
  . cases h
def qwm (o:Option R77):Option qwp:=o.bind fun|(.inr (.inl x))=>some x|_=>none
theorem qzX {o:Option R77}{v:qwp}(h:qwm o=some v):o=some (.inr (.inl v)):=by
 cases o with
 |none=>cases h
 |some r=>
  unfold qwm at h;simp only[ae]at h;split at h
  . injection h with h;rw[h]
  . cases h
def qvs (o:Option R77):Option qvG:=o.bind fun|(.inr (.inr (.inl x)))=>some x|_=>none
theorem qz1 {o:Option R77}{v:qvG}(h:qvs o=some v):o=some (.inr (.inr (.inl v))):=by
 cases o with
 |none=>cases h
 |some r=>
  unfold qvs at h;simp only[ae]at h;split at h
  . injection h with h;rw[h]
  . cases h
def qwc (o:Option R77):Option qwr:=o.bind fun|(.inr (.inr (.inr (.inl x))))=>some x|_=>none
theorem qz2 {o:Option R77}{v:qwr}(h:qwc o=some v):o=some (.inr (.inr (.inr (.inl v)))):=by
 cases o with
 |none=>cases h
 |some r=>
  unfold qwc at h;simp only[ae]at h;split at h
  . injection h with h;rw[h]
  . cases h
def qvX (o:Option R77):Option qws:=o.bind fun|(.inr (.inr (.inr (.inr (.inl x)))))=>some x|_=>none
theorem qz3 {o:Option R77}{v:qws}(h:qvX o=some v):o=some (.inr (.inr (.inr (.inr (.inl v))))):=by
 cases o with
 |none=>cases h
 |some r=>
  unfold qvX at h;simp only[ae]at h;split at h
  . injection h with h;rw[h]
  . cases h
def qwo (o:Option R77):Option qwt:=o.bind fun|(.inr (.inr (.inr (.inr (.inr (.inl x))))))=>some x|_=>none
theorem qz4 {o:Option R77}{v:qwt}(h:qwo o=some v):o=some (.inr (.inr (.inr (.inr (.inr (.inl v)))))):=by
 cases o with
 |none=>cases h
 |some r=>
  unfold qwo at h;simp only[ae]at h;split at h
  . injection h with h;rw[h]
  . cases h
def qvp (o:Option R77):Option qwu:=o.bind fun|(.inr (.inr (.inr (.inr (.inr (.inr (.inl x)))))))=>some x|_=>none
theorem qz5 {o:Option R77}{v:qwu}(h:qvp o=some v):o=some (.inr (.inr (.inr (.inr (.inr (.inr (.inl v))))))):=by
 cases o with
 |none=>cases h
 |some r=>
  unfold qvp at h;simp only[ae]at h;split at h
  . injection h with h;rw[h]
  . cases h
def qvY (o:Option R77):Option qwv:=o.bind fun|(.inr (.inr (.inr (.inr (.inr (.inr (.inr (.inl x))))))))=>some x|_=>none
theorem qz6 {o:Option R77}{v:qwv}(h:qvY o=some v):o=some (.inr (.inr (.inr (.inr (.inr (.inr (.inr (.inl v)))))))):=by
 cases o with
 |none=>cases h
 |some r=>
  unfold qvY at h;simp only[ae]at h;split at h
  . injection h with h;rw[h]
  . cases h
def qxl (o:Option R77):Option qww:=o.bind fun|(.inr (.inr (.inr (.inr (.inr (.inr (.inr (.inr (.inl x)))))))))=>some x|_=>none
theorem qz7 {o:Option R77}{v:qww}(h:qxl o=some v):o=some (.inr (.inr (.inr (.inr (.inr (.inr (.inr (.inr (.inl v))))))))):=by
 cases o with
 |none=>cases h
 |some r=>
  unfold qxl at h;simp only[ae]at h;split at h
  . injection h with h;rw[h]
  . cases h
def qwn (o:Option R77):Option qwq:=o.bind fun|(.inr (.inr (.inr (.inr (.inr (.inr (.inr (.inr (.inr (.inl x))))))))))=>some x|_=>none
theorem qzY {o:Option R77}{v:qwq}(h:qwn o=some v):o=some (.inr (.inr (.inr (.inr (.inr (.inr (.inr (.inr (.inr (.inl v)))))))))):=by
 cases o with
 |none=>cases h
 |some r=>
  unfold qwn at h;simp only[ae]at h;split at h
  . injection h with h;rw[h]
  . cases h
def qvN (o:Option R77):Option qv3:=o.bind fun|(.inr (.inr (.inr (.inr (.inr (.inr (.inr (.inr (.inr (.inr (.inl x)))))))))))=>some x|_=>none
theorem qyZ {o:Option R77}{v:qv3}(h:qvN o=some v):o=some (.inr (.inr (.inr (.inr (.inr (.inr (.inr (.inr (.inr (.inr (.inl v))))))))))):=by
 cases o with
 |none=>cases h
 |some r=>
  unfold qvN at h;simp only[ae]at h;split at h
  . injection h with h;rw[h]
  . cases h
def qwA (o:Option R77):Option qv4:=o.bind fun|(.inr (.inr (.inr (.inr (.inr (.inr (.inr (.inr (.inr (.inr (.inr (.inl x))))))))))))=>some x|_=>none
theorem qy0 {o:Option R77}{v:qv4}(h:qwA o=some v):o=some (.inr (.inr (.inr (.inr (.inr (.inr (.inr (.inr (.inr (.inr (.inr (.inl v)))))))))))):=by
 cases o with
 |none=>cases h
 |some r=>
  unfold qwA at h;simp only[ae]at h;split at h
  . injection h with h;rw[h]
  . cases h
def qvO (o:Option R77):Option qv5:=o.bind fun|(.inr (.inr (.inr (.inr (.inr (.inr (.inr (.inr (.inr (.inr (.inr (.inr (.inl x)))))))))))))=>some x|_=>none
theorem qy1 {o:Option R77}{v:qv5}(h:qvO o=some v):o=some (.inr (.inr (.inr (.inr (.inr (.inr (.inr (.inr (.inr (.inr (.inr (.inr (.inl v))))))))))))):=by
 cases o with
 |none=>cases h
 |some r=>
  unfold qvO at h;simp only[ae]at h;split at h
  . injection h with h;rw[h]
  . cases h
def qvP (o:Option R77):Option qv6:=o.bind fun|(.inr (.inr (.inr (.inr (.inr (.inr (.inr (.inr (.inr (.inr (.inr (.inr (.inr x)))))))))))))=>some x|_=>none
theorem qy2 {o:Option R77}{v:qv6}(h:qvP o=some v):o=some (.inr (.inr (.inr (.inr (.inr (.inr (.inr (.inr (.inr (.inr (.inr (.inr (.inr v))))))))))))):=by
 cases o with
 |none=>cases h
 |some r=>
  unfold qvP at h;simp only[ae]at h;split at h
  . injection h with h;rw[h]
  . cases h
inductive S43 where
 |e (a:Rs)(b:Int)
 |h0 (a:Rs)(b:Int)(c:Bool)(d e f g i j:Int)(l m:By)(n:Int)
 |h1 (a b c d:Int)(e:Rs)(f g:Int)(i j:By)(l:Int)
 |h2 (a b c d:Int)(e:Rs)(f g:Int)(i j:By)(l:Int)
abbrev R43:=(Int×Int×Int×By×By×Int×Int×Int×Int)⊕(Int×Rs×Int×Int×By×By×Int×Int×Int×Int)
inductive S45 where
 |e (a:Rs)(b:Int)(c d:Rs)(e f:Int)(g:By)(i:Int)
 |h0 (a:Rs)(b:Int)(c d:Rs)(e f:Int)(g:By)(i:Int)
abbrev R45:=(Int×Int×Rs×Int×Rs×Rs×Int×Int×By×Int)⊕(Rs×Int×Rs×Rs×Int×Int×By×Int)
inductive S44b where
 |e (a:Rs)(b:Int)(c:Rs)(d e:Int)(f g:By)(i:Int)
abbrev R44b:=Rs
inductive S44 where
 |e (a:Int)(b:Rs)(c d:Int)(e f:By)(g:Int)
abbrev R44:=Rs
inductive S14b where
 |e (a:Rs)(b:Int)(c d:Rs)(e f:Int)(g:By)(i:Int)
 |h0 (a:Rs)(b:Int)(c d:Rs)(e f:Int)(g:By)(i:Int)
 |h1 (a b c:Int)(d:Bool)(e:Int)(f:Rs)(g i:Int)(j l:By)(m:Int)(n:Rs)(o:Int)(p q:Rs)(t u:Int)(v:By)(w:Int)
 |h2 (a:Rs)(b:Int)(c d:Rs)(e f:Int)(g:By)(i:Int)
abbrev R14b:=(Int×Int×Rs×Int×Rs×Rs×Int×Int×By×Int)⊕(Rs×Int×Rs×Rs×Int×Int×By×Int)
inductive S5 where
 |e (a:By)
 |h0 (a:Rs)(b:Bool)(c d e f:Int)(g:By)(i:Int)
 |h1 (a b:Int)(c d:Rs)(e f:Int)(g:By)(i:Int)
 |h2 (a:Rs)(b:Int)(c d:Rs)(e f:Int)(g:By)(i j l m n:Int)(o:By)(p:Int)
 |h3 (a b:Int)(c d:Rs)(e f:Int)(g:By)(i:Int)
 |h4 (a b:Int)(c d:Rs)(e f:Int)(g:By)(i:Int)
abbrev R5:=(Rs×Rs×Int×Int×By×Int×Int×Int)⊕(Int×Int×By×Int×Int×Int)
inductive S7 where
 |e
abbrev R7:=Bool
inductive S25 where
 |e (a:Int)(b:Rs)(c d:Int)(e f:By)(g:Int)
 |h0 (a:Rs)(b c d e f:Int)(g i:By)(j l:Int)(m:Rs)(n o:Int)(p q:By)(t:Int)
abbrev R25:=Int×Rs×Int×Int×By×By×Int
inductive S9 where
 |e (a b:Rs)(c d:Int)(e:By)(f:Int)
 |h0 (a b:Rs)(c d e f:Int)(g:By)(i:Int)(j l:Rs)(m n:Int)(o:By)(p:Int)
 |h1 (a b:Rs)(c d e f:Int)(g:By)(i:Int)(j l:Rs)(m n:Int)(o:By)(p:Int)
abbrev R9:=Rs×Rs×Int×Int×By×Int
inductive S79 where
 |e (a:Int)
abbrev R79:=Bool
attribute [local irreducible] cond gd ixR sxI aixS Option.bind
noncomputable section
def qCz:qvo->ARes
 |(.inl (a,b,_,_,_))=>.panic (.iface 122 (.agg #[.int .i64 a,.int .i64 b]))
 |(.inr (a,b,c,d,e,f,g,_,_,_))=>.ret (.ag [ic a,.imm b,ic c,ic d,sc e,sc f,ic g])
def bx77:qvo->List (List Cell)
 |(.inl (_,_,a,b,c))=>[[.imm a,ic b,ic c]]
 |(.inr (_,_,_,_,_,_,_,a,b,c))=>[[.imm a,ic b,ic c]]
def rs77:R77->ARes
 |(.inl x)=>qCz x
 |_=>.panic .nilIface
def bs77:R77->List (List Cell)
 |(.inl x)=>bx77 x
 |_=>[]
def qBf:qwp->ARes
 |(.inl (a,b,_,_,_))=>.panic (.iface 122 (.agg #[.int .i64 a,.int .i64 b]))
 |(.inr (a,b,c,d,e,f,g,_,_,_))=>.ret (.ag [ic a,.imm b,ic c,ic d,sc e,sc f,ic g])
def qCZ:qwp->List (List Cell)
 |(.inl (_,_,a,b,c))=>[[.imm a,ic b,ic c]]
 |(.inr (_,_,_,_,_,_,_,a,b,c))=>[[.imm a,ic b,ic c]]
def qCC:R77->ARes
 |(.inr (.inl x))=>qBf x
 |_=>.panic .nilIface
def qB7:R77->List (List Cell)
 |(.inr (.inl x))=>qCZ x
 |_=>[]
def qsl:qvG->ARes
 |(.inl (a,b,_,_,_))=>.panic (.iface 122 (.agg #[.int .i64 a,.int .i64 b]))
 |(.inr (.inl (a,b,c,d,e,f,g,_,_,_)))=>.ret (.ag [ic a,.imm b,ic c,ic d,sc e,sc f,ic g])
 |(.inr (.inr (a,b,c,d,e,f,g,_,_,_)))=>.ret (.ag [ic a,.own 7 b,ic c,ic d,sc e,sc f,ic g])
def qs9:qvG->List (List Cell)
 |(.inl (_,_,a,b,c))=>[[.imm a,ic b,ic c]]
 |(.inr (.inl (_,_,_,_,_,_,_,a,b,c)))=>[[.imm a,ic b,ic c]]
 |(.inr (.inr (_,_,_,_,_,_,_,a,b,c)))=>[[.imm a,ic b,ic c]]
def qFP:R77->ARes
 |(.inr (.inr (.inl x)))=>qsl x
 |_=>.panic .nilIface
def qEP:R77->List (List Cell)
 |(.inr (.inr (.inl x)))=>qs9 x
 |_=>[]
def qFQ:R77->ARes
 |(.inr (.inr (.inr (.inl x))))=>qBf x
 |_=>.panic .nilIface
def qEQ:R77->List (List Cell)
 |(.inr (.inr (.inr (.inl x))))=>qCZ x
 |_=>[]
def qCD:R77->ARes
 |(.inr (.inr (.inr (.inr (.inl x)))))=>qBf x
 |_=>.panic .nilIface
def qB8:R77->List (List Cell)
 |(.inr (.inr (.inr (.inr (.inl x)))))=>qCZ x
 |_=>[]
def qCE:R77->ARes
 |(.inr (.inr (.inr (.inr (.inr (.inl x))))))=>qBf x
 |_=>.panic .nilIface
def qB9:R77->List (List Cell)
 |(.inr (.inr (.inr (.inr (.inr (.inl x))))))=>qCZ x
 |_=>[]
def qBs:qwu->ARes
 |(.inl (a,b,_,_,_))=>.panic (.iface 122 (.agg #[.int .i64 a,.int .i64 b]))
 |(.inr (.inl (a,b,c,d,e,f,g,_,_,_)))=>.ret (.ag [ic a,.own 7 b,ic c,ic d,sc e,sc f,ic g])
 |(.inr (.inr (a,b,c,d,e,f,g,_,_,_)))=>.ret (.ag [ic a,.imm b,ic c,ic d,sc e,sc f,ic g])
def qDc:qwu->List (List Cell)
 |(.inl (_,_,a,b,c))=>[[.imm a,ic b,ic c]]
 |(.inr (.inl (_,_,_,_,_,_,_,a,b,c)))=>[[.imm a,ic b,ic c]]
 |(.inr (.inr (_,_,_,_,_,_,_,a,b,c)))=>[[.imm a,ic b,ic c]]
def qAM:R77->ARes
 |(.inr (.inr (.inr (.inr (.inr (.inr (.inl x)))))))=>qBs x
 |_=>.panic .nilIface
def qAl:R77->List (List Cell)
 |(.inr (.inr (.inr (.inr (.inr (.inr (.inl x)))))))=>qDc x
 |_=>[]
def qBt:qwv->ARes
 |(.inl (a,b,_,_,_))=>.panic (.iface 122 (.agg #[.int .i64 a,.int .i64 b]))
 |(.inr (.inl (a,b,c,d,e,f,g,_,_,_)))=>.ret (.ag [ic a,.imm b,ic c,ic d,sc e,sc f,ic g])
 |(.inr (.inr (a,b,c,d,e,f,g,_,_,_)))=>.ret (.ag [ic a,.own 7 b,ic c,ic d,sc e,sc f,ic g])
def qx5:R77->ARes
 |(.inr (.inr (.inr (.inr (.inr (.inr (.inr (.inl x))))))))=>qBt x
 |_=>.panic .nilIface
def qxR:R77->List (List Cell)
 |(.inr (.inr (.inr (.inr (.inr (.inr (.inr (.inl x))))))))=>qDc x
 |_=>[]
def qBw:qww->ARes
 |(.inl (a,b,_,_,_))=>.panic (.iface 122 (.agg #[.int .i64 a,.int .i64 b]))
 |(.inr (a,b,c,d,e,f,g,_,_,_))=>.ret (.ag [ic a,.own 7 b,ic c,ic d,sc e,sc f,ic g])
def qyn:R77->ARes
 |(.inr (.inr (.inr (.inr (.inr (.inr (.inr (.inr (.inl x)))))))))=>qBw x
 |_=>.panic .nilIface
def qyc:R77->List (List Cell)
 |(.inr (.inr (.inr (.inr (.inr (.inr (.inr (.inr (.inl x)))))))))=>qCZ x
 |_=>[]
def qFO:R77->ARes
 |(.inr (.inr (.inr (.inr (.inr (.inr (.inr (.inr (.inr (.inl x))))))))))=>qBw x
 |_=>.panic .nilIface
def qEO:R77->List (List Cell)
 |(.inr (.inr (.inr (.inr (.inr (.inr (.inr (.inr (.inr (.inl x))))))))))=>qCZ x
 |_=>[]
def qD5:R77->ARes
 |(.inr (.inr (.inr (.inr (.inr (.inr (.inr (.inr (.inr (.inr (.inl x)))))))))))=>qBw x
 |_=>.panic .nilIface
def qCV:R77->List (List Cell)
 |(.inr (.inr (.inr (.inr (.inr (.inr (.inr (.inr (.inr (.inr (.inl x)))))))))))=>qCZ x
 |_=>[]
def qD6:R77->ARes
 |(.inr (.inr (.inr (.inr (.inr (.inr (.inr (.inr (.inr (.inr (.inr (.inl x))))))))))))=>qBw x
 |_=>.panic .nilIface
def qCW:R77->List (List Cell)
 |(.inr (.inr (.inr (.inr (.inr (.inr (.inr (.inr (.inr (.inr (.inr (.inl x))))))))))))=>qCZ x
 |_=>[]
def qD7:R77->ARes
 |(.inr (.inr (.inr (.inr (.inr (.inr (.inr (.inr (.inr (.inr (.inr (.inr (.inl x)))))))))))))=>qBw x
 |_=>.panic .nilIface
def qCX:R77->List (List Cell)
 |(.inr (.inr (.inr (.inr (.inr (.inr (.inr (.inr (.inr (.inr (.inr (.inr (.inl x)))))))))))))=>qCZ x
 |_=>[]
def qD8:R77->ARes
 |(.inr (.inr (.inr (.inr (.inr (.inr (.inr (.inr (.inr (.inr (.inr (.inr (.inr x)))))))))))))=>qBw x
 |_=>.panic .nilIface
def qCY:R77->List (List Cell)
 |(.inr (.inr (.inr (.inr (.inr (.inr (.inr (.inr (.inr (.inr (.inr (.inr (.inr x)))))))))))))=>qCZ x
 |_=>[]
def quZ (k:Nat)(rec:S77->Option R77):S77->Option R77
 |.e_77 a b c=>
  (tg 5 (qwm (rec (.e_100 a b c)))).bind fun d=>
  altC d (fun e=>
    tup5 e fun f g i j l=>
    some (.inl (.inl (f,g,i,j,l)))) (fun e=>
    ql e fun m n o p q t u i j l=>
    rec (tg 7 (.h0_77 m n o p q t u 0 0 0 (strB []) (strB []) 0 i j l)))
 |.h0_77 a b c d e f g i j l m n o p q t=>
  (tg 7 (g101 k (strB [79,82]) p q t)).bind fun u=>
  tup2 u fun v w=>
  bif v then
   (tg 12 (qvP (rec (.e_102e 14 a b c d e f g w q t)))).bind fun x=>
   altC x (fun y=>
     tup5 y fun z a1 b1 c1 d1=>
     some (.inl (.inl (z,a1,b1,c1,d1)))) (fun y=>
     ql y fun e1 f1 g1 i1 j1 l1 m1 b1 c1 d1=>
     rec (tg 9 (.h1_77 e1 f1 g1 i1 j1 l1 m1 i j l m n o b1 c1 d1)))
  else
   some (.inl (.inr (a,b,c,d,e,f,g,w,q,t)))
 |.h1_77 a b c d e f g i j l m n o p q t=>
  (tg 7 (g101 k (strB [79,82]) p q t)).bind fun u=>
  tup2 u fun v w=>
  bif v then
   (tg 12 (tg 3 (qvP (rec (.e_102e 14 a (qG b) c d e f g w q t))))).bind fun x=>
   altC x (fun y=>
     tup5 y fun z a1 b1 c1 d1=>
     some (.inl (.inl (z,a1,b1,c1,d1)))) (fun y=>
     ql y fun e1 f1 g1 i1 j1 l1 m1 b1 c1 d1=>
     rec (tg 9 (.h1_77 e1 f1 g1 i1 j1 l1 m1 i j l m n o b1 c1 d1)))
  else
   some (.inl (.inr (a,qG b,c,d,e,f,g,w,q,t)))
 |.e_100 a b c=>
  (tg 5 (qvs (rec (.e_121 a b c)))).bind fun d=>
  altC d (fun e=>
    tup5 e fun f g i j l=>
    some (.inr (.inl (.inl (f,g,i,j,l))))) (fun m=>altC m (fun e=>
    ql e fun n o p q t u v i j l=>
    rec (tg 7 (.h0_100 n o p q t u v 0 0 0 (strB []) (strB []) 0 i j l))) (fun e=>
    ql e fun n o p q t u v i j l=>
    rec (tg 7 (.h1_100 n o p q t u v 0 0 0 (strB []) (strB []) 0 i j l))))
 |.h0_100 a b c d e f g i j l m n o p q t=>
  (tg 7 (g101 k (strB [65,78,68]) p q t)).bind fun u=>
  tup2 u fun v w=>
  bif v then
   (tg 12 (qvO (rec (.e_102d 13 a b c d e f g w q t)))).bind fun x=>
   altC x (fun y=>
     tup5 y fun z a1 b1 c1 d1=>
     some (.inr (.inl (.inl (z,a1,b1,c1,d1))))) (fun y=>
     ql y fun e1 f1 g1 i1 j1 l1 m1 b1 c1 d1=>
     rec (tg 9 (.h1_100 e1 f1 g1 i1 j1 l1 m1 i j l m n o b1 c1 d1)))
  else
   some (.inr (.inl (.inr (a,b,c,d,e,f,g,w,q,t))))
 |.h1_100 a b c d e f g i j l m n o p q t=>
  (tg 7 (g101 k (strB [65,78,68]) p q t)).bind fun u=>
  tup2 u fun v w=>
  bif v then
   (tg 12 (tg 3 (qvO (rec (.e_102d 13 a (qG b) c d e f g w q t))))).bind fun x=>
   altC x (fun y=>
     tup5 y fun z a1 b1 c1 d1=>
     some (.inr (.inl (.inl (z,a1,b1,c1,d1))))) (fun y=>
     ql y fun e1 f1 g1 i1 j1 l1 m1 b1 c1 d1=>
     rec (tg 9 (.h1_100 e1 f1 g1 i1 j1 l1 m1 i j l m n o b1 c1 d1)))
  else
   some (.inr (.inl (.inr (a,qG b,c,d,e,f,g,w,q,t))))
 |.e_121 a b c=>
  (tg 6 (g101 k (strB [78,79,84]) a b c)).bind fun d=>
  tup2 d fun e f=>
  bif tg 7 (!e)then
   (tg 9 (qwc (rec (.e_135 f b c)))).bind fun g=>
   altC g (fun i=>
     tup5 i fun j l m n o=>
     some (.inr (.inr (.inl (.inl (j,l,m,n,o)))))) (fun i=>
     ql i fun p q t u v w x m n o=>
     some (.inr (.inr (.inl (.inr (.inl (p,q,t,u,v,w,x,m,n,o)))))))
  else
   (tg 11 (g136 k f b c)).bind fun g=>
   altC g (fun i=>
     tup5 i fun j l m n o=>
     some (.inr (.inr (.inl (.inl (j,l,m,n,o)))))) (fun i=>
     tup4 i fun y m n o=>
     (tg 13 (qvs (rec (.e_121 m n o)))).bind fun z=>
     altC z (fun a1=>
       tup5 a1 fun b1 c1 d1 e1 f1=>
       some (.inr (.inr (.inl (.inl (b1,c1,d1,e1,f1)))))) (fun g1=>altC g1 (fun a1=>
       ql a1 fun i1 j1 l1 m1 n1 o1 p1 d1 e1 f1=>
       some (.inr (.inr (.inl (.inr (.inr (15,[[ic i1,.imm j1,ic l1,ic m1,sc n1,sc o1,ic p1]],0,0,strB [],strB [],y,d1,e1,IntKind.i64.wrap (f1-1)))))))) (fun a1=>
       ql a1 fun i1 j1 l1 m1 n1 o1 p1 d1 e1 f1=>
       some (.inr (.inr (.inl (.inr (.inr (15,[[ic i1,.imm (qG j1),ic l1,ic m1,sc n1,sc o1,ic p1]],0,0,strB [],strB [],y,d1,e1,IntKind.i64.wrap (f1-1))))))))))
 |.e_135 a b c=>
  (tg 6 (qvX (rec (.e_143 a b c)))).bind fun d=>
  altC d (fun e=>
    tup5 e fun f g i j l=>
    some (.inr (.inr (.inr (.inl (.inl (f,g,i,j,l))))))) (fun e=>
    ql e fun m n o p q t u i j l=>
    (tg 8 (g144 k (strB [61,32,33,61,32,60,32,60,61,32,62,32,62,61]) 7 i j l)).bind fun v=>
    tup2 v fun w x=>
    bif tg 10 (w != 0)then
     (tg 16 (qwA (rec (.e_102c w m n o p q t u x j l)))).bind fun y=>
     altC y (fun z=>
       tup5 z fun a1 b1 c1 d1 e1=>
       some (.inr (.inr (.inr (.inl (.inl (a1,b1,c1,d1,e1))))))) (fun z=>
       ql z fun f1 g1 i1 j1 l1 m1 n1 c1 d1 e1=>
       some (.inr (.inr (.inr (.inl (.inr (f1,qG g1,i1,j1,l1,m1,n1,c1,d1,e1)))))))
    else
     some (.inr (.inr (.inr (.inl (.inr (m,n,o,p,q,t,u,x,j,l)))))))
 |.e_143 a b c=>
  (tg 6 (qwo (rec (.e_146 a b c)))).bind fun d=>
  altC d (fun e=>
    tup5 e fun f g i j l=>
    some (.inr (.inr (.inr (.inr (.inl (.inl (f,g,i,j,l)))))))) (fun e=>
    ql e fun m n o p q t u i j l=>
    rec (tg 6 (.h0_143 m n o p q t u 0 0 0 (strB []) (strB []) 0 i j l)))
 |.h0_143 a b c d e f g i j l m n o p q t=>
  (tg 8 (g144 k (strB [43,32,45]) 1 p q t)).bind fun u=>
  tup2 u fun v w=>
  bif tg 10 (v==0)then
   some (.inr (.inr (.inr (.inr (.inl (.inr (a,b,c,d,e,f,g,w,q,t)))))))
  else
   (tg 17 (qvN (rec (.e_102b v a b c d e f g w q t)))).bind fun x=>
   altC x (fun y=>
     tup5 y fun z a1 b1 c1 d1=>
     some (.inr (.inr (.inr (.inr (.inl (.inl (z,a1,b1,c1,d1)))))))) (fun y=>
     ql y fun e1 f1 g1 i1 j1 l1 m1 b1 c1 d1=>
     rec (tg 11 (.h1_143 e1 f1 g1 i1 j1 l1 m1 i j l m n o b1 c1 d1)))
 |.h1_143 a b c d e f g i j l m n o p q t=>
  (tg 8 (g144 k (strB [43,32,45]) 1 p q t)).bind fun u=>
  tup2 u fun v w=>
  bif tg 10 (v==0)then
   some (.inr (.inr (.inr (.inr (.inl (.inr (a,qG b,c,d,e,f,g,w,q,t)))))))
  else
   (tg 17 (tg 3 (qvN (rec (.e_102b v a (qG b) c d e f g w q t))))).bind fun x=>
   altC x (fun y=>
     tup5 y fun z a1 b1 c1 d1=>
     some (.inr (.inr (.inr (.inr (.inl (.inl (z,a1,b1,c1,d1)))))))) (fun y=>
     ql y fun e1 f1 g1 i1 j1 l1 m1 b1 c1 d1=>
     rec (tg 11 (.h1_143 e1 f1 g1 i1 j1 l1 m1 i j l m n o b1 c1 d1)))
 |.e_146 a b c=>
  (tg 6 (qvp (rec (.e_148 a b c)))).bind fun d=>
  altC d (fun e=>
    tup5 e fun f g i j l=>
    some (.inr (.inr (.inr (.inr (.inr (.inl (.inl (f,g,i,j,l))))))))) (fun m=>altC m (fun e=>
    ql e fun n o p q t u v i j l=>
    rec (tg 6 (.h0_146 n o p q t u v 0 0 0 (strB []) (strB []) 0 i j l))) (fun e=>
    ql e fun n o p q t u v i j l=>
    rec (tg 6 (.h1_146 n o p q t u v 0 0 0 (strB []) (strB []) 0 i j l))))
 |.h0_146 a b c d e f g i j l m n o p q t=>
  (tg 8 (g144 k (strB [42,32,47,32,37]) 3 p q t)).bind fun u=>
  tup2 u fun v w=>
  bif tg 10 (v==0)then
   some (.inr (.inr (.inr (.inr (.inr (.inl (.inr (a,qG b,c,d,e,f,g,w,q,t))))))))
  else
   (tg 17 (tg 3 (qwn (rec (.e_102 v a (qG b) c d e f g w q t))))).bind fun x=>
   altC x (fun y=>
     tup5 y fun z a1 b1 c1 d1=>
     some (.inr (.inr (.inr (.inr (.inr (.inl (.inl (z,a1,b1,c1,d1))))))))) (fun y=>
     ql y fun e1 f1 g1 i1 j1 l1 m1 b1 c1 d1=>
     rec (tg 11 (.h0_146 e1 f1 g1 i1 j1 l1 m1 i j l m n o b1 c1 d1)))
 |.h1_146 a b c d e f g i j l m n o p q t=>
  (tg 8 (g144 k (strB [42,32,47,32,37]) 3 p q t)).bind fun u=>
  tup2 u fun v w=>
  bif tg 10 (v==0)then
   some (.inr (.inr (.inr (.inr (.inr (.inl (.inr (a,b,c,d,e,f,g,w,q,t))))))))
  else
   (tg 17 (qwn (rec (.e_102 v a b c d e f g w q t)))).bind fun x=>
   altC x (fun y=>
     tup5 y fun z a1 b1 c1 d1=>
     some (.inr (.inr (.inr (.inr (.inr (.inl (.inl (z,a1,b1,c1,d1))))))))) (fun y=>
     ql y fun e1 f1 g1 i1 j1 l1 m1 b1 c1 d1=>
     rec (tg 11 (.h0_146 e1 f1 g1 i1 j1 l1 m1 i j l m n o b1 c1 d1)))
 |.e_148 a b c=>
  (tg 6 (g101 k (strB [45]) a b c)).bind fun d=>
  tup2 d fun e f=>
  bif tg 7 (!e)then
   (tg 9 (qvY (rec (.e_151 f b c)))).bind fun g=>
   altC g (fun i=>
     tup5 i fun j l m n o=>
     some (.inr (.inr (.inr (.inr (.inr (.inr (.inl (.inl (j,l,m,n,o)))))))))) (fun p=>altC p (fun i=>
     ql i fun q t u v w x y m n o=>
     rec (tg 8 (.h0_148 q t u v w x y m n o))) (fun i=>
     ql i fun q t u v w x y m n o=>
     rec (tg 8 (.h1_148 q t u v w x y m n o))))
  else
   (tg 11 (g136 k f b c)).bind fun g=>
   altC g (fun i=>
     tup5 i fun j l m n o=>
     some (.inr (.inr (.inr (.inr (.inr (.inr (.inl (.inl (j,l,m,n,o)))))))))) (fun i=>
     tup4 i fun z m n o=>
     (tg 13 (qvp (rec (.e_148 m n o)))).bind fun a1=>
     altC a1 (fun b1=>
       tup5 b1 fun c1 d1 e1 f1 g1=>
       some (.inr (.inr (.inr (.inr (.inr (.inr (.inl (.inl (c1,d1,e1,f1,g1)))))))))) (fun i1=>altC i1 (fun b1=>
       ql b1 fun j1 l1 m1 n1 o1 p1 q1 e1 f1 g1=>
       rec (tg 15 (rg [4] [] (.h2_148 6 [[ic j1,.imm (qG l1),ic m1,ic n1,sc o1,sc p1,ic q1]] 0 0 (strB []) (strB []) z e1 f1 (IntKind.i64.wrap (g1-1)))))) (fun b1=>
       ql b1 fun j1 l1 m1 n1 o1 p1 q1 e1 f1 g1=>
       rec (tg 15 (rg [4] [] (.h2_148 6 [[ic j1,.imm l1,ic m1,ic n1,sc o1,sc p1,ic q1]] 0 0 (strB []) (strB []) z e1 f1 (IntKind.i64.wrap (g1-1))))))))
 |.h0_148 a b c d e f g i j l=>some (.inr (.inr (.inr (.inr (.inr (.inr (.inl (.inr (.inr (a,b,c,d,e,f,g,i,j,l))))))))))
 |.h1_148 a b c d e f g i j l=>some (.inr (.inr (.inr (.inr (.inr (.inr (.inl (.inr (.inl (a,b,c,d,e,f,g,i,j,l))))))))))
 |.h2_148 a b c d e f g i j l=>some (.inr (.inr (.inr (.inr (.inr (.inr (.inl (.inr (.inl (a,b,c,d,e,f,g,i,j,l))))))))))
 |.e_151 a b c=>
  (tg 8 (g122 k a b c)).bind fun d=>
  tup6 d fun e f g i j l=>
  bif tg 12 (e==3)then
   rec (tg 15 (rg [3] [(⟨⟨.loc 2,[]⟩,0,1⟩,none)] (.h0_151 20 [] g 0 (strB []) (strB []) j l (IntKind.i64.wrap (b+1)) c)))
  else
   bif tg 26 (e==4)then
    rec (tg 18 (rg [3] [(⟨⟨.loc 2,[]⟩,0,1⟩,none)] (.h1_151 21 [] g i (strB []) (strB []) j l (IntKind.i64.wrap (b+1)) c)))
   else
    bif tg 42 (e==5)then
     rec (tg 21 (rg [3] [(⟨⟨.loc 2,[]⟩,0,1⟩,none)] (.h2_151 23 [] 0 0 f (strB []) j l (IntKind.i64.wrap (b+1)) c)))
    else
     bif tg 56 (e==2)then
      (tg 59 (g153 k l b c)).bind fun m=>
      altC m (fun n=>
        tup4 n fun o p q t=>
        some (.inr (.inr (.inr (.inr (.inr (.inr (.inr (.inl (.inl (o,p,q,t,c))))))))))) (fun n=>
        tup4 n fun u v q t=>
        rec (tg 24 (rg [3] [(⟨⟨.loc 2,[]⟩,0,1⟩,none)] (.h3_151 24 [] 0 0 u v j q t c))))
     else
      bif tg 68 (e==6)then
       bif tg 71 (f.toList==(strB [40]).toList)then
        (tg 73 (g136 k l b c)).bind fun n=>
        altC n (fun w=>
          tup5 w fun x y z a1 b1=>
          some (.inr (.inr (.inr (.inr (.inr (.inr (.inr (.inl (.inl (x,y,z,a1,b1))))))))))) (fun w=>
          tup4 w fun _ z a1 b1=>
          (tg 75 (qwB (rec (.e_77 z a1 b1)))).bind fun c1=>
          altC c1 (fun d1=>
            tup5 d1 fun e1 f1 g1 i1 j1=>
            some (.inr (.inr (.inr (.inr (.inr (.inr (.inr (.inl (.inl (e1,f1,g1,i1,j1))))))))))) (fun d1=>
            ql d1 fun l1 m1 n1 o1 p1 q1 t1 g1 i1 j1=>
            (tg 77 (g154 k (strB [41]) g1 i1 j1)).bind fun u1=>
            altC u1 (fun v1=>
              tup4 v1 fun w1 x1 y1 z1=>
              some (.inr (.inr (.inr (.inr (.inr (.inr (.inr (.inl (.inl (w1,x1,y1,z1,j1))))))))))) (fun v1=>
              tup2 v1 fun y1 z1=>
              rec (tg 36 (rg [6,3] [] (.h4_151 l1 m1 n1 o1 p1 q1 t1 y1 z1 (IntKind.i64.wrap (j1-1))))))))
       else
        rec (tg 28 (.h5_151 e f g i j 0 0 0 (strB []) (strB []) 0 l b c))
      else
       bif tg 87 (e==1)then
        (tg 90 (qxl (rec (.e_155 e f g i j l b c)))).bind fun n=>
        altC n (fun w=>
          tup5 w fun x y z a1 b1=>
          some (.inr (.inr (.inr (.inr (.inr (.inr (.inr (.inl (.inl (x,y,z,a1,b1))))))))))) (fun w=>
          ql w fun a2 b2 c2 d2 e2 f2 g2 z a1 b1=>
          rec (tg 28 (rg [3] [] (.h6_151 a2 b2 c2 d2 e2 f2 g2 z a1 b1))))
       else
        rec (tg 28 (.h5_151 e f g i j 0 0 0 (strB []) (strB []) 0 l b c))
 |.h0_151 a b c d e f g i j l=>some (.inr (.inr (.inr (.inr (.inr (.inr (.inr (.inl (.inr (.inl (a,b,c,d,e,f,g,i,j,l)))))))))))
 |.h1_151 a b c d e f g i j l=>some (.inr (.inr (.inr (.inr (.inr (.inr (.inr (.inl (.inr (.inl (a,b,c,d,e,f,g,i,j,l)))))))))))
 |.h2_151 a b c d e f g i j l=>some (.inr (.inr (.inr (.inr (.inr (.inr (.inr (.inl (.inr (.inl (a,b,c,d,e,f,g,i,j,l)))))))))))
 |.h3_151 a b c d e f g i j l=>some (.inr (.inr (.inr (.inr (.inr (.inr (.inr (.inl (.inr (.inl (a,b,c,d,e,f,g,i,j,l)))))))))))
 |.h4_151 a b c d e f g i j l=>some (.inr (.inr (.inr (.inr (.inr (.inr (.inr (.inl (.inr (.inl (a,b,c,d,e,f,g,i,j,l)))))))))))
 |.h5_151 _ _ _ _ a _ _ _ _ _ _ b c d=>some (.inr (.inr (.inr (.inr (.inr (.inr (.inr (.inl (.inl (a,13,b,c,d))))))))))
 |.h6_151 a b c d e f g i j l=>some (.inr (.inr (.inr (.inr (.inr (.inr (.inr (.inl (.inr (.inr (a,b,c,d,e,f,g,i,j,l)))))))))))
 |.e_155 a b c d e f g i=>
  bif tg 11 (b.toList==(strB [84,82,85,69]).toList)then
   rec (tg 11 (.h0_155 b true 0 0 0 (strB []) (strB []) 0 a b c d e f g i))
  else
   rec (tg 11 (.h0_155 b (b.toList==(strB [70,65,76,83,69]).toList) 0 0 0 (strB []) (strB []) 0 a b c d e f g i))
 |.h0_155 a b c d e f g i j l m n o p q t=>
  bif b then
   bif tg 22 (l.toList==(strB [84,82,85,69]).toList)then
    rec (tg 10 (.h1_155 1 c d e f g i j l m n o p (IntKind.i64.wrap (q+1)) t))
   else
    rec (tg 10 (.h1_155 0 c d e f g i j l m n o p (IntKind.i64.wrap (q+1)) t))
  else
   bif tg 28 (a.toList==(strB [82,69,65,76]).toList)then
    rec (tg 6 (.h2_155 true c d e f g i j l m n o p q t))
   else
    rec (tg 6 (.h2_155 (a.toList==(strB [73,83,78,65,78]).toList) c d e f g i j l m n o p q t))
 |.h1_155 a _ _ _ _ _ _ _ _ _ _ b c d e=>rec (tg 2 (rg [3] [(⟨⟨.loc 4,[]⟩,0,1⟩,some 7)] (.h3_155 22 [] a 0 (strB []) (strB []) b c d e)))
 |.h2_155 a _ _ _ _ _ _ b c d e f g i j=>
  bif a then
   (tg 31 (g136 k g i j)).bind fun l=>
   altC l (fun m=>
     tup5 m fun n o p q t=>
     some (.inr (.inr (.inr (.inr (.inr (.inr (.inr (.inr (.inl (.inl (n,o,p,q,t)))))))))))) (fun m=>
     tup4 m fun _ p q t=>
     (tg 33 (g154 k (strB [40]) p q t)).bind fun u=>
     altC u (fun v=>
       tup4 v fun w x y z=>
       some (.inr (.inr (.inr (.inr (.inr (.inr (.inr (.inr (.inl (.inl (w,x,y,z,t)))))))))))) (fun v=>
       tup2 v fun y z=>
       (tg 35 (qwB (rec (.e_77 y z t)))).bind fun a1=>
       altC a1 (fun b1=>
         tup5 b1 fun c1 d1 e1 f1 g1=>
         some (.inr (.inr (.inr (.inr (.inr (.inr (.inr (.inr (.inl (.inl (c1,d1,e1,f1,g1)))))))))))) (fun b1=>
         ql b1 fun i1 j1 l1 m1 n1 o1 p1 e1 f1 g1=>
         (tg 37 (g154 k (strB [41]) e1 f1 g1)).bind fun q1=>
         altC q1 (fun t1=>
           tup4 t1 fun u1 v1 w1 x1=>
           some (.inr (.inr (.inr (.inr (.inr (.inr (.inr (.inr (.inl (.inl (u1,v1,w1,x1,g1)))))))))))) (fun t1=>
           tup2 t1 fun w1 x1=>
           bif tg 47 (c.toList==(strB [73,83,78,65,78]).toList)then
            rec (tg 20 (rg [6,3] [] (.h4_155 17 [[ic i1,.imm j1,ic l1,ic m1,sc n1,sc o1,ic p1]] 0 0 (strB []) (strB []) f w1 x1 (IntKind.i64.wrap (g1-1)))))
           else
            rec (tg 20 (rg [6,3] [] (.h4_155 16 [[ic i1,.imm j1,ic l1,ic m1,sc n1,sc o1,ic p1]] 0 0 (strB []) (strB []) f w1 x1 (IntKind.i64.wrap (g1-1)))))))))
  else
   (tg 56 (g159 k b c d e f g i j)).bind fun l=>
   altC l (fun m=>
     tup4 m fun n o p q=>
     some (.inr (.inr (.inr (.inr (.inr (.inr (.inr (.inr (.inl (.inl (n,o,p,q,j)))))))))))) (fun m=>
     tup8 m fun y1 z1 a2 b2 c2 d2 p q=>
     rec (tg 5 (rg [3] [(⟨⟨.loc 4,[]⟩,0,1⟩,some 7)] (.h5_155 y1 [] z1 a2 b2 c2 d2 p q j))))
 |.h3_155 a b c d e f g i j l=>some (.inr (.inr (.inr (.inr (.inr (.inr (.inr (.inr (.inl (.inr (a,b,c,d,e,f,g,i,j,l)))))))))))
 |.h4_155 a b c d e f g i j l=>some (.inr (.inr (.inr (.inr (.inr (.inr (.inr (.inr (.inl (.inr (a,b,c,d,e,f,g,i,j,l)))))))))))
 |.h5_155 a b c d e f g i j l=>some (.inr (.inr (.inr (.inr (.inr (.inr (.inr (.inr (.inl (.inr (a,b,c,d,e,f,g,i,j,l)))))))))))
 |.e_102 a b c d e f g i j l m=>
  (tg 11 (g122 k j l m)).bind fun n=>
  tup6 n fun _ _ _ _ o p=>
  (tg 23 (qvp (rec (.e_148 p (IntKind.i64.wrap (l+1)) m)))).bind fun q=>
  altC q (fun t=>
    tup5 t fun u v w x y=>
    ins 1 (aP 3) <|
    some (.inr (.inr (.inr (.inr (.inr (.inr (.inr (.inr (.inr (.inl (.inl (u,v,w,x,y))))))))))))) (fun z=>altC z (fun t=>
    ql t fun a1 b1 c1 d1 e1 f1 g1 w x y=>
    some (.inr (.inr (.inr (.inr (.inr (.inr (.inr (.inr (.inr (.inl (.inr (a,[[ic b,.imm c,ic d,ic e,sc f,sc g,ic i],[ic a1,.own 7 b1,ic c1,ic d1,sc e1,sc f1,ic g1]],0,0,strB [],strB [],o,w,x,y))))))))))))) (fun t=>
    ql t fun a1 b1 c1 d1 e1 f1 g1 w x y=>
    some (.inr (.inr (.inr (.inr (.inr (.inr (.inr (.inr (.inr (.inl (.inr (a,[[ic b,.imm c,ic d,ic e,sc f,sc g,ic i],[ic a1,.imm b1,ic c1,ic d1,sc e1,sc f1,ic g1]],0,0,strB [],strB [],o,w,x,y))))))))))))))
 |.e_102b a b c d e f g i j l m=>
  (tg 11 (g122 k j l m)).bind fun n=>
  tup6 n fun _ _ _ _ o p=>
  (tg 23 (qwo (rec (.e_146 p (IntKind.i64.wrap (l+1)) m)))).bind fun q=>
  altC q (fun t=>
    tup5 t fun u v w x y=>
    ins 1 (aP 3) <|
    some (.inr (.inr (.inr (.inr (.inr (.inr (.inr (.inr (.inr (.inr (.inl (.inl (u,v,w,x,y)))))))))))))) (fun t=>
    ql t fun z a1 b1 c1 d1 e1 f1 w x y=>
    some (.inr (.inr (.inr (.inr (.inr (.inr (.inr (.inr (.inr (.inr (.inl (.inr (a,[[ic b,.imm c,ic d,ic e,sc f,sc g,ic i],[ic z,.imm a1,ic b1,ic c1,sc d1,sc e1,ic f1]],0,0,strB [],strB [],o,w,x,y))))))))))))))
 |.e_102c a b c d e f g i j l m=>
  (tg 11 (g122 k j l m)).bind fun n=>
  tup6 n fun _ _ _ _ o p=>
  (tg 23 (qvX (rec (.e_143 p (IntKind.i64.wrap (l+1)) m)))).bind fun q=>
  altC q (fun t=>
    tup5 t fun u v w x y=>
    ins 1 (aP 3) <|
    some (.inr (.inr (.inr (.inr (.inr (.inr (.inr (.inr (.inr (.inr (.inr (.inl (.inl (u,v,w,x,y))))))))))))))) (fun t=>
    ql t fun z a1 b1 c1 d1 e1 f1 w x y=>
    some (.inr (.inr (.inr (.inr (.inr (.inr (.inr (.inr (.inr (.inr (.inr (.inl (.inr (a,[[ic b,.imm c,ic d,ic e,sc f,sc g,ic i],[ic z,.imm a1,ic b1,ic c1,sc d1,sc e1,ic f1]],0,0,strB [],strB [],o,w,x,y)))))))))))))))
 |.e_102d a b c d e f g i j l m=>
  (tg 11 (g122 k j l m)).bind fun n=>
  tup6 n fun _ _ _ _ o p=>
  (tg 23 (qvs (rec (.e_121 p (IntKind.i64.wrap (l+1)) m)))).bind fun q=>
  altC q (fun t=>
    tup5 t fun u v w x y=>
    ins 1 (aP 3) <|
    some (.inr (.inr (.inr (.inr (.inr (.inr (.inr (.inr (.inr (.inr (.inr (.inr (.inl (.inl (u,v,w,x,y)))))))))))))))) (fun z=>altC z (fun t=>
    ql t fun a1 b1 c1 d1 e1 f1 g1 w x y=>
    some (.inr (.inr (.inr (.inr (.inr (.inr (.inr (.inr (.inr (.inr (.inr (.inr (.inl (.inr (a,[[ic b,.imm c,ic d,ic e,sc f,sc g,ic i],[ic a1,.imm b1,ic c1,ic d1,sc e1,sc f1,ic g1]],0,0,strB [],strB [],o,w,x,y)))))))))))))))) (fun t=>
    ql t fun a1 b1 c1 d1 e1 f1 g1 w x y=>
    some (.inr (.inr (.inr (.inr (.inr (.inr (.inr (.inr (.inr (.inr (.inr (.inr (.inl (.inr (a,[[ic b,.imm c,ic d,ic e,sc f,sc g,ic i],[ic a1,.own 7 b1,ic c1,ic d1,sc e1,sc f1,ic g1]],0,0,strB [],strB [],o,w,x,y)))))))))))))))))
 |.e_102e a b c d e f g i j l m=>
  (tg 11 (g122 k j l m)).bind fun n=>
  tup6 n fun _ _ _ _ o p=>
  (tg 23 (qwm (rec (.e_100 p (IntKind.i64.wrap (l+1)) m)))).bind fun q=>
  altC q (fun t=>
    tup5 t fun u v w x y=>
    ins 1 (aP 3) <|
    some (.inr (.inr (.inr (.inr (.inr (.inr (.inr (.inr (.inr (.inr (.inr (.inr (.inr (.inl (u,v,w,x,y)))))))))))))))) (fun t=>
    ql t fun z a1 b1 c1 d1 e1 f1 w x y=>
    some (.inr (.inr (.inr (.inr (.inr (.inr (.inr (.inr (.inr (.inr (.inr (.inr (.inr (.inr (a,[[ic b,.imm c,ic d,ic e,sc f,sc g,ic i],[ic z,.imm a1,ic b1,ic c1,sc d1,sc e1,ic f1]],0,0,strB [],strB [],o,w,x,y))))))))))))))))
def g77 (k:Nat)(a:Rs)(b c:Int):Option qvo:=qwB (itS quZ k (.e_77 a b c))
def P77:S77->R77->Prop
 |.e_77 a b c=>Fe Y77 rs77 bs77 [pP 0] [[.imm a,ic b,ic c]]
 |.h0_77 a b c d e f g i j l m n o p q t=>Fk Y77 rs77 bs77 [1,1,0,0,4] ([pP 0,.deadv,pL 2,pL 3]++rd 10) [(.loc 3,[ic a,.imm b,ic c,ic d,sc e,sc f,ic g]),(.loc 2,[ic i,.nil,ic j,ic l,sc m,sc n,ic o]),(.par 0,[.imm p,ic q,ic t])]
 |.h1_77 a b c d e f g i j l m n o p q t=>Fk Y77 rs77 bs77 [1,1,0,0,4] ([pP 0,.deadv,pL 2,pL 3]++rd 10) [(.loc 3,[ic a,.own 7 b,ic c,ic d,sc e,sc f,ic g]),(.loc 2,[ic i,.nil,ic j,ic l,sc m,sc n,ic o]),(.par 0,[.imm p,ic q,ic t])]
 |.e_100 a b c=>Fe Y100 qCC qB7 [pP 0] [[.imm a,ic b,ic c]]
 |.h0_100 a b c d e f g i j l m n o p q t=>Fk Y100 qCC qB7 [1,1,0,0,4] ([pP 0,.deadv,pL 2,pL 3]++rd 10) [(.loc 3,[ic a,.imm b,ic c,ic d,sc e,sc f,ic g]),(.loc 2,[ic i,.nil,ic j,ic l,sc m,sc n,ic o]),(.par 0,[.imm p,ic q,ic t])]
 |.h1_100 a b c d e f g i j l m n o p q t=>Fk Y100 qCC qB7 [1,1,0,0,4] ([pP 0,.deadv,pL 2,pL 3]++rd 10) [(.loc 3,[ic a,.own 7 b,ic c,ic d,sc e,sc f,ic g]),(.loc 2,[ic i,.nil,ic j,ic l,sc m,sc n,ic o]),(.par 0,[.imm p,ic q,ic t])]
 |.e_121 a b c=>Fe Y121 qFP qEP [pP 0] [[.imm a,ic b,ic c]]
 |.e_135 a b c=>Fe Y135 qFQ qEQ [pP 0] [[.imm a,ic b,ic c]]
 |.e_143 a b c=>Fe Y143 qCD qB8 [pP 0] [[.imm a,ic b,ic c]]
 |.h0_143 a b c d e f g i j l m n o p q t=>Fk Y143 qCD qB8 [1,1,0,4] ([pP 0,.deadv,pL 2,pL 3]++rd 14) [(.loc 3,[ic a,.imm b,ic c,ic d,sc e,sc f,ic g]),(.loc 2,[ic i,.nil,ic j,ic l,sc m,sc n,ic o]),(.par 0,[.imm p,ic q,ic t])]
 |.h1_143 a b c d e f g i j l m n o p q t=>Fk Y143 qCD qB8 [1,1,0,4] ([pP 0,.deadv,pL 2,pL 3]++rd 14) [(.loc 3,[ic a,.own 7 b,ic c,ic d,sc e,sc f,ic g]),(.loc 2,[ic i,.nil,ic j,ic l,sc m,sc n,ic o]),(.par 0,[.imm p,ic q,ic t])]
 |.e_146 a b c=>Fe Y146 qCE qB9 [pP 0] [[.imm a,ic b,ic c]]
 |.h0_146 a b c d e f g i j l m n o p q t=>Fk Y146 qCE qB9 [1,1,0,4] ([pP 0,.deadv,pL 2,pL 3]++rd 14) [(.loc 3,[ic a,.own 7 b,ic c,ic d,sc e,sc f,ic g]),(.loc 2,[ic i,.nil,ic j,ic l,sc m,sc n,ic o]),(.par 0,[.imm p,ic q,ic t])]
 |.h1_146 a b c d e f g i j l m n o p q t=>Fk Y146 qCE qB9 [1,1,0,4] ([pP 0,.deadv,pL 2,pL 3]++rd 14) [(.loc 3,[ic a,.imm b,ic c,ic d,sc e,sc f,ic g]),(.loc 2,[ic i,.nil,ic j,ic l,sc m,sc n,ic o]),(.par 0,[.imm p,ic q,ic t])]
 |.e_148 a b c=>Fe Y148 qAM qAl [pP 0] [[.imm a,ic b,ic c]]
 |.h0_148 a b c d e f g i j l=>Fk Y148 qAM qAl [1,0,1,0,1,2] ([.deadv,.deadv,pL 2]++rd 22) [(.loc 2,[ic a,.imm b,ic c,ic d,sc e,sc f,ic g]),(.par 0,[.imm i,ic j,ic l])]
 |.h1_148 a b c d e f g i j l=>Fk Y148 qAM qAl [1,0,1,0,1,2] ([.deadv,.deadv,pL 2]++rd 22) [(.loc 2,[ic a,.own 7 b,ic c,ic d,sc e,sc f,ic g]),(.par 0,[.imm i,ic j,ic l])]
 |.h2_148 a b c d e f g i j l=>Fk Y148 qAM qAl [1,1,1,1,1,1,2] ([.deadv,.deadv,pL 2]++rd 22) [(.loc 2,[ic a,.own 7 b,ic c,ic d,sc e,sc f,ic g]),(.par 0,[.imm i,ic j,ic l])]
 |.e_151 a b c=>Fe Y151 qx5 qxR [pP 0] [[.imm a,ic b,ic c]]
 |.h0_151 a b c d e f g i j l=>Fk Y151 qx5 qxR [1,1,0,1,0,1,0,1,1,2] ([.deadv,.deadv,pL 2]++rd 92) [(.loc 2,[ic a,.imm b,ic c,ic d,sc e,sc f,ic g]),(.par 0,[.imm i,ic j,ic l])]
 |.h1_151 a b c d e f g i j l=>Fk Y151 qx5 qxR [1,1,0,1,0,1,1,1,0,1,1,2] ([.deadv,.deadv,pL 2]++rd 92) [(.loc 2,[ic a,.imm b,ic c,ic d,sc e,sc f,ic g]),(.par 0,[.imm i,ic j,ic l])]
 |.h2_151 a b c d e f g i j l=>Fk Y151 qx5 qxR [1,1,0,1,0,1,1,1,1,1,0,1,1,2] ([.deadv,.deadv,pL 2]++rd 92) [(.loc 2,[ic a,.imm b,ic c,ic d,sc e,sc f,ic g]),(.par 0,[.imm i,ic j,ic l])]
 |.h3_151 a b c d e f g i j l=>Fk Y151 qx5 qxR [1,1,0,1,0,1,1,1,1,1,1,1,0,1,1,2] ([.deadv,.deadv,pL 2]++rd 92) [(.loc 2,[ic a,.imm b,ic c,ic d,sc e,sc f,ic g]),(.par 0,[.imm i,ic j,ic l])]
 |.h4_151 a b c d e f g i j l=>Fk Y151 qx5 qxR [1,1,0,1,0,1,1,1,1,1,1,1,1,1,0,1,0,1,1,1,1,1,2] ([.deadv,.deadv,pL 2]++rd 92) [(.loc 2,[ic a,.imm b,ic c,ic d,sc e,sc f,ic g]),(.par 0,[.imm i,ic j,ic l])]
 |.h5_151 a b c d e f g i j l m n o p=>Fk Y151 qx5 qxR [1,1,1,2] ([.deadv,.deadv,pL 2,pL 3]++rd 91) [(.loc 3,[ic a,sc b,ic c,ic d,ic e]),(.loc 2,[ic f,.nil,ic g,ic i,sc j,sc l,ic m]),(.par 0,[.imm n,ic o,ic p])]
 |.h6_151 a b c d e f g i j l=>Fk Y151 qx5 qxR [1,1,0,1,0,1,1,1,1,1,1,1,1,1,1,1,0,1,2] ([.deadv,.deadv,pL 2]++rd 92) [(.loc 2,[ic a,.own 7 b,ic c,ic d,sc e,sc f,ic g]),(.par 0,[.imm i,ic j,ic l])]
 |.e_155 a b c d e f g i=>Fe Y155 qyn qyc [pP 0,.ag [ic a,sc b,ic c,ic d,ic e]] [[.imm f,ic g,ic i]]
 |.h0_155 a b c d e f g i j l m n o p q t=>Fk Y155 qyn qyc [1,0,1,0,1,2] ([pP 0,.deadv,.deadv,pL 3,pL 4]++rd 4++[csc a,cbc b]++rd 46) [(.loc 4,[ic c,.nil,ic d,ic e,sc f,sc g,ic i]),(.loc 3,[ic j,sc l,ic m,ic n,ic o]),(.par 0,[.imm p,ic q,ic t])]
 |.h1_155 a b c d e f g i j l m n o p q=>Fk Y155 qyn qyc [1,0,1,0,1,0,1,1,1,2] (rd 3++[pL 3,pL 4,cic a]++rd 51) [(.loc 4,[ic b,.nil,ic c,ic d,sc e,sc f,ic g]),(.loc 3,[ic i,sc j,ic l,ic m,ic n]),(.par 0,[.imm o,ic p,ic q])]
 |.h2_155 a b c d e f g i j l m n o p q=>Fk Y155 qyn qyc [1,0,1,0,1,1,1,2] ([pP 0,.deadv,.deadv,pL 3,pL 4]++rd 22++[cbc a]++rd 29) [(.loc 4,[ic b,.nil,ic c,ic d,sc e,sc f,ic g]),(.loc 3,[ic i,sc j,ic l,ic m,ic n]),(.par 0,[.imm o,ic p,ic q])]
 |.h3_155 a b c d e f g i j l=>Fk Y155 qyn qyc [1,0,1,0,1,0,1,1,1,1,2] (rd 4++[pL 4]++rd 52) [(.loc 4,[ic a,.own 7 b,ic c,ic d,sc e,sc f,ic g]),(.par 0,[.imm i,ic j,ic l])]
 |.h4_155 a b c d e f g i j l=>Fk Y155 qyn qyc [1,0,1,0,1,1,1,0,1,1,1,1,1,1,1,1,2] (rd 4++[pL 4]++rd 52) [(.loc 4,[ic a,.own 7 b,ic c,ic d,sc e,sc f,ic g]),(.par 0,[.imm i,ic j,ic l])]
 |.h5_155 a b c d e f g i j l=>Fk Y155 qyn qyc [1,1,1,2] (rd 4++[pL 4]++rd 52) [(.loc 4,[ic a,.own 7 b,ic c,ic d,sc e,sc f,ic g]),(.par 0,[.imm i,ic j,ic l])]
 |.e_102 a b c d e f g i j l m=>Fe Y102 qFO qEO [pP 0,cic a,.ag [ic b,.imm c,ic d,ic e,sc f,sc g,ic i],.c (.clo 148 [.ptr ⟨⟨.par 0,[]⟩,0,0⟩] [])] [[.imm j,ic l,ic m]]
 |.e_102b a b c d e f g i j l m=>Fe Y102 qD5 qCV [pP 0,cic a,.ag [ic b,.imm c,ic d,ic e,sc f,sc g,ic i],.c (.clo 146 [.ptr ⟨⟨.par 0,[]⟩,0,0⟩] [])] [[.imm j,ic l,ic m]]
 |.e_102c a b c d e f g i j l m=>Fe Y102 qD6 qCW [pP 0,cic a,.ag [ic b,.imm c,ic d,ic e,sc f,sc g,ic i],.c (.clo 143 [.ptr ⟨⟨.par 0,[]⟩,0,0⟩] [])] [[.imm j,ic l,ic m]]
 |.e_102d a b c d e f g i j l m=>Fe Y102 qD7 qCX [pP 0,cic a,.ag [ic b,.imm c,ic d,ic e,sc f,sc g,ic i],.c (.clo 121 [.ptr ⟨⟨.par 0,[]⟩,0,0⟩] [])] [[.imm j,ic l,ic m]]
 |.e_102e a b c d e f g i j l m=>Fe Y102 qD8 qCY [pP 0,cic a,.ag [ic b,.imm c,ic d,ic e,sc f,sc g,ic i],.c (.clo 100 [.ptr ⟨⟨.par 0,[]⟩,0,0⟩] [])] [[.imm j,ic l,ic m]]
instance {a:Rs} {b c:Int}:EvS P77 qwB (.e_77 a b c) 77 [pP 0] [[.imm a,ic b,ic c]] qCz bx77:=⟨fun o h v e=>evF (h _ (qyK e))⟩
instance {a:Rs} {b c:Int}:EvS P77 qwm (.e_100 a b c) 100 [pP 0] [[.imm a,ic b,ic c]] qBf qCZ:=⟨fun o h v e=>evF (h _ (qzX e))⟩
instance {a:Rs} {b c:Int}:EvS P77 qvs (.e_121 a b c) 121 [pP 0] [[.imm a,ic b,ic c]] qsl qs9:=⟨fun o h v e=>evF (h _ (qz1 e))⟩
instance {a:Rs} {b c:Int}:EvS P77 qwc (.e_135 a b c) 135 [pP 0] [[.imm a,ic b,ic c]] qBf qCZ:=⟨fun o h v e=>evF (h _ (qz2 e))⟩
instance {a:Rs} {b c:Int}:EvS P77 qvX (.e_143 a b c) 143 [pP 0] [[.imm a,ic b,ic c]] qBf qCZ:=⟨fun o h v e=>evF (h _ (qz3 e))⟩
instance {a:Rs} {b c:Int}:EvS P77 qwo (.e_146 a b c) 146 [pP 0] [[.imm a,ic b,ic c]] qBf qCZ:=⟨fun o h v e=>evF (h _ (qz4 e))⟩
instance {a:Rs} {b c:Int}:EvS P77 qvp (.e_148 a b c) 148 [pP 0] [[.imm a,ic b,ic c]] qBs qDc:=⟨fun o h v e=>evF (h _ (qz5 e))⟩
instance {a:Rs} {b c:Int}:EvS P77 qvY (.e_151 a b c) 151 [pP 0] [[.imm a,ic b,ic c]] qBt qDc:=⟨fun o h v e=>evF (h _ (qz6 e))⟩
instance {a:Int} {b:By} {c d e:Int} {f:Rs} {g i:Int}:EvS P77 qxl (.e_155 a b c d e f g i) 155 [pP 0,.ag [ic a,sc b,ic c,ic d,ic e]] [[.imm f,ic g,ic i]] qBw qCZ:=⟨fun o h v e=>evF (h _ (qz7 e))⟩
instance {a b:Int} {c:Rs} {d e:Int} {f g:By} {i:Int} {j:Rs} {l m:Int}:EvS P77 qwn (.e_102 a b c d e f g i j l m) 102 [pP 0,cic a,.ag [ic b,.imm c,ic d,ic e,sc f,sc g,ic i],.c (.clo 148 [.ptr ⟨⟨.par 0,[]⟩,0,0⟩] [])] [[.imm j,ic l,ic m]] qBw qCZ:=⟨fun o h v e=>evF (h _ (qzY e))⟩
instance {a b:Int} {c:Rs} {d e:Int} {f g:By} {i:Int} {j:Rs} {l m:Int}:EvS P77 qvN (.e_102b a b c d e f g i j l m) 102 [pP 0,cic a,.ag [ic b,.imm c,ic d,ic e,sc f,sc g,ic i],.c (.clo 146 [.ptr ⟨⟨.par 0,[]⟩,0,0⟩] [])] [[.imm j,ic l,ic m]] qBw qCZ:=⟨fun o h v e=>evF (h _ (qyZ e))⟩
instance {a b:Int} {c:Rs} {d e:Int} {f g:By} {i:Int} {j:Rs} {l m:Int}:EvS P77 qwA (.e_102c a b c d e f g i j l m) 102 [pP 0,cic a,.ag [ic b,.imm c,ic d,ic e,sc f,sc g,ic i],.c (.clo 143 [.ptr ⟨⟨.par 0,[]⟩,0,0⟩] [])] [[.imm j,ic l,ic m]] qBw qCZ:=⟨fun o h v e=>evF (h _ (qy0 e))⟩
instance {a b:Int} {c:Rs} {d e:Int} {f g:By} {i:Int} {j:Rs} {l m:Int}:EvS P77 qvO (.e_102d a b c d e f g i j l m) 102 [pP 0,cic a,.ag [ic b,.imm c,ic d,ic e,sc f,sc g,ic i],.c (.clo 121 [.ptr ⟨⟨.par 0,[]⟩,0,0⟩] [])] [[.imm j,ic l,ic m]] qBw qCZ:=⟨fun o h v e=>evF (h _ (qy1 e))⟩
instance {a b:Int} {c:Rs} {d e:Int} {f g:By} {i:Int} {j:Rs} {l m:Int}:EvS P77 qvP (.e_102e a b c d e f g i j l m) 102 [pP 0,cic a,.ag [ic b,.imm c,ic d,ic e,sc f,sc g,ic i],.c (.clo 100 [.ptr ⟨⟨.par 0,[]⟩,0,0⟩] [])] [[.imm j,ic l,ic m]] qBw qCZ:=⟨fun o h v e=>evF (h _ (qy2 e))⟩
theorem ok77:∀ k s r,itS quZ k s=some r->P77 s r:=okU trivial
instance {k:Nat} {a:Rs} {b c:Int}:EvI (g77 k a b c) 77 [pP 0] [[.imm a,ic b,ic c]] qCz bx77:=⟨fun r h=>evF (ok77 _ _ _ (qyK h))⟩
def qiP:R43->ARes
 |(.inl (a,b,c,d,e,f,g,i,j))=>.ret ⟨.tup [true,false,false,false],[[ic a,.nil,ic b,ic c,sc d,sc e,ic f],[ic g],[ic i],[ic j]]⟩
 |(.inr (a,b,c,d,e,f,g,i,j,l))=>.ret ⟨.tup [true,false,false,false],[[ic a,.imm b,ic c,ic d,sc e,sc f,ic g],[ic i],[ic j],[ic l]]⟩
def bx43:R43->List (List Cell)
 |(.inl (_,_,_,_,_,_,_,_,_))=>[]
 |(.inr (_,_,_,_,_,_,_,_,_,_))=>[]
def Zo (k:Nat)(rec:S43->Option R43):S43->Option R43
 |.e a b=>
  bif decide (b<0)then
   rec (.h0 a b true 0 0 0 0 0 0 (strB []) (strB []) 0)
  else
   rec (.h0 a b (decide (b>=(a.length:Int))) 0 0 0 0 0 0 (strB []) (strB []) 0)
 |.h0 a b c ..=>
  bif c then
   rec (.h1 1 0 0 0 [] 0 0 (strB []) (strB []) 0)
  else
   (g77 k a b 0).bind fun d=>
   altC d (fun e=>
     tup5 e fun f g _ i _=>
     some (.inl (0,0,0,strB [],strB [],0,0,f,g))) (fun e=>
     ql e fun j l m n o p q _ i _=>
     rec (.h2 0 0 i j l m n o p q))
 |.h1 a b c d e f g i j l=>some (.inr (d,e,f,g,i,j,l,c,b,a))
 |.h2 a b c d e f g i j l=>some (.inr (d,e,f,g,i,j,l,c,b,a))
def g43 (k:Nat)(a:Rs)(b:Int):Option R43:=itS Zo k (.e a b)
def P43:S43->R43->Prop
 |.e a b,r=>FinD Y43.cx Tryz.f43 (DOf Y43.cx.P none 0) [.code Y43.code] (fr0 Tryz.f43 [cm a,cic b] []) (qiP r) (bx43 r)
 |.h0 a b c d e f g i j l m n,r=>FinD Y43.cx Tryz.f43 (DOf Y43.cx.P none 0) (kAt Y43.code [1,0,1,2] []) ⟨[cm a,cic b,.deadv,.deadv,pL 4,pL 5,pL 6,pL 7]++rd 8++[cbc c]++rd 13,[(.loc 7,[ic d]),(.loc 6,[ic e]),(.loc 5,[ic f]),(.loc 4,[ic g,.nil,ic i,ic j,sc l,sc m,ic n])]⟩ (qiP r) (bx43 r)
 |.h1 a b c d e f g i j l,r=>FinD Y43.cx Tryz.f43 (DOf Y43.cx.P none 0) (kAt Y43.code [1,0,1,0,1,2] []) ⟨rd 4++[pL 4,pL 5,pL 6,pL 7]++rd 22,[(.loc 7,[ic a]),(.loc 6,[ic b]),(.loc 5,[ic c]),(.loc 4,[ic d,.imm e,ic f,ic g,sc i,sc j,ic l])]⟩ (qiP r) (bx43 r)
 |.h2 a b c d e f g i j l,r=>FinD Y43.cx Tryz.f43 (DOf Y43.cx.P (some 18) 76) (kAt Y43.code [1,1,1,1,1,1,2] []) ⟨rd 4++[pL 4,pL 5,pL 6,pL 7]++rd 10++[.c (.clo 76 [] [.ptr ⟨⟨.loc 4,[]⟩,0,0⟩,.ptr ⟨⟨.loc 5,[]⟩,0,0⟩,.ptr ⟨⟨.loc 6,[]⟩,0,0⟩,.ptr ⟨⟨.loc 7,[]⟩,0,0⟩])]++rd 11,[(.loc 7,[ic a]),(.loc 6,[ic b]),(.loc 5,[ic c]),(.loc 4,[ic d,.imm e,ic f,ic g,sc i,sc j,ic l])]⟩ (qiP r) (bx43 r)
abbrev E43 (a:Rs)(b:Int)(r:R43):Prop:=Ev Tryz.prog noHand 43 [cm a,cic b] [] (qiP r) (bx43 r)
theorem qnm {a:Rs}{b:Int}{r:R43}(h:P43 (.e a b) r):E43 a b r:=evD h
theorem qDz {b0_0 b0_2 b0_3:Int}{b0_4 b0_5:ByteArray}{b0_6 b1_0 b2_0 b3_0 pv_i00 pv_i01:Int}:EvD Tryz.prog (.panicking [{ v:=.iface 122 (.agg #[.int .i64 pv_i00,.int .i64 pv_i01]),recovered:=false }]) (.panicking [{ v:=.iface 122 (.agg #[.int .i64 pv_i00,.int .i64 pv_i01]),recovered:=true }]) 76 [pP 0,pP 1,pP 2,pP 3] [[ic b0_0,.nil,ic b0_2,ic b0_3,sc b0_4,sc b0_5,ic b0_6],[ic b1_0],[ic b2_0],[ic b3_0]] (.ret .undef) [[ic 0,.nil,ic 0,ic 0,sc (strB []),sc (strB []),ic 0],[ic 0],[ic pv_i00],[ic pv_i01]]:=qcj (fn:=Tryz.f76) (body:=Y76.code) (cx:=Y76.cx) (nb:=4) (n:=2000) (val:=.iface 122 (.agg #[.int .i64 pv_i00,.int .i64 pv_i01])) (ad1:=[]) (ad2:=[]) (ps:=[]) (by kernel_rfl) (by kernel_rfl) rfl hmix rfl (.inl ⟨rfl,rfl⟩) (by kernel_rfl) trivial
theorem qDA {b0_0:Int}{b0_1:Rs}{b0_2 b0_3:Int}{b0_4 b0_5:ByteArray}{b0_6 b1_0 b2_0 b3_0:Int}:EvD Tryz.prog .returning .returning 76 [pP 0,pP 1,pP 2,pP 3] [[ic b0_0,.imm b0_1,ic b0_2,ic b0_3,sc b0_4,sc b0_5,ic b0_6],[ic b1_0],[ic b2_0],[ic b3_0]] (.ret .undef) [[ic b0_0,.imm b0_1,ic b0_2,ic b0_3,sc b0_4,sc b0_5,ic b0_6],[ic b1_0],[ic b2_0],[ic b3_0]]:=qcj (fn:=Tryz.f76) (body:=Y76.code) (cx:=Y76.cx) (nb:=4) (n:=2000) (val:=.nilIface) (ad1:=[]) (ad2:=[]) (ps:=[]) (by kernel_rfl) (by kernel_rfl) rfl hmix rfl (.inr ⟨rfl,rfl,rfl⟩) (by kernel_rfl) trivial
theorem ok43:∀ k s r,itS Zo k s=some r->P43 s r:=qF fun k rec ih s r h=>match s,h with
 |.e ..,h=>by
  rcases qa h with⟨a,h⟩|⟨a,h⟩
  . exact Ya (t:=none) (f:=0) hmix (ih _ _ h) (n:=5) (ad:=[(some 10,.test true)]) (ps:=[_]) (m:=bm 30 1073676044) (ls:=[]) (cs:=[]) (by kernel_rfl) ⟨a,trivial⟩
  . exact Ya (t:=none) (f:=0) hmix (ih _ _ h) (n:=5) (ad:=[(some 10,.test false)]) (ps:=[_]) (m:=bm 30 1073676044) (ls:=[]) (cs:=[]) (by kernel_rfl) ⟨a,trivial⟩
 |.h0 a b _ c d e g i j l o p,h=>by
  replace h:=qa h;rcases h with⟨rfl,h⟩|⟨rfl,h⟩
  . exact Ya (t:=none) (f:=0) hmix (ih _ _ h) (n:=3) (ad:=[]) (ps:=[]) (m:=bm 30 1073741583) (ls:=[]) (cs:=[(⟨⟨.loc 4,[]⟩,0,1⟩,none)]) (by kernel_rfl) trivial
  . obtain⟨_,q,h⟩:=qh h;replace h:=qf h;rcases h with⟨_,rfl,h⟩|⟨_,rfl,h⟩
    . replace h:=qk6 h;obtain⟨u,v,w,x,y,rfl,h⟩:=h;rw[<- aR h];exact Ya (t:=none) (f:=0) hmix (qg9 (Q:=fun G0 w0=>bodyPostD Y43.cx.P Tryz.f43 (Went G0 w0 _ _)) (K0:=(kAt Y43.code [1,1,0,2] [])) (F:=⟨[cm a,cic b,.deadv,.deadv,pL 4,pL 5,pL 6,pL 7]++rd 8++[cbc false]++rd 13,[(.loc 7,[ic c]),(.loc 6,[ic d]),(.loc 5,[ic e]),(.loc 4,[ic g,.nil,ic i,ic j,sc l,sc o,ic p])]⟩) (k:=18) (f:=76) (K1:=(kAt Y43.code [1,1,0,3] [])) (F1:=⟨[cm a,cic b,.deadv,.deadv,pL 4,pL 5,pL 6,pL 7]++rd 8++[cbc false,.deadv,.c (.clo 76 [] [.ptr ⟨⟨.loc 4,[]⟩,0,0⟩,.ptr ⟨⟨.loc 5,[]⟩,0,0⟩,.ptr ⟨⟨.loc 6,[]⟩,0,0⟩,.ptr ⟨⟨.loc 7,[]⟩,0,0⟩])]++rd 11,[(.loc 7,[ic c]),(.loc 6,[ic d]),(.loc 5,[ic e]),(.loc 4,[ic g,.nil,ic i,ic j,sc l,sc o,ic p])]⟩) (ad:=[]) (ps:=[]) ⟨Tryz.f76,by kernel_rfl,by kernel_rfl,by kernel_rfl⟩ (Yz (nb:=0) (t:=some 18) (f:=76) hmix (n:=2000) (ad:=[(some 24,.call (.panic (.iface 122 (.agg #[.int .i64 u,.int .i64 v]))) [[.imm w,ic x,ic y]] false)]) (ps:=[_,_]) (bx':=[[ic 0,.nil,ic 0,ic 0,sc (strB []),sc (strB []),ic 0],[ic 0],[ic u],[ic v]]) (by kernel_rfl) ⟨(evI q),(qDz (b0_0:=g) (b0_2:=i) (b0_3:=j) (b0_4:=l) (b0_5:=o) (b0_6:=p) (b1_0:=e) (b2_0:=d) (b3_0:=c) (pv_i00:=u) (pv_i01:=v)),trivial⟩) (by kernel_rfl) trivial) (n:=3) (ad:=[]) (ps:=[]) (m:=bm 30 0) (ls:=[]) (cs:=[]) (by kernel_rfl) trivial
    . replace h:=qjf h;obtain⟨z,a1,b1,c1,d1,e1,f1,w,x,y,rfl,h⟩:=h;exact Ya (t:=none) (f:=0) hmix (qg9 (Q:=fun G0 w0=>bodyPostD Y43.cx.P Tryz.f43 (Went G0 w0 _ _)) (K0:=(kAt Y43.code [1,1,0,2] [])) (F:=⟨[cm a,cic b,.deadv,.deadv,pL 4,pL 5,pL 6,pL 7]++rd 8++[cbc false]++rd 13,[(.loc 7,[ic c]),(.loc 6,[ic d]),(.loc 5,[ic e]),(.loc 4,[ic g,.nil,ic i,ic j,sc l,sc o,ic p])]⟩) (k:=18) (f:=76) (K1:=(kAt Y43.code [1,1,0,3] [])) (F1:=⟨[cm a,cic b,.deadv,.deadv,pL 4,pL 5,pL 6,pL 7]++rd 8++[cbc false,.deadv,.c (.clo 76 [] [.ptr ⟨⟨.loc 4,[]⟩,0,0⟩,.ptr ⟨⟨.loc 5,[]⟩,0,0⟩,.ptr ⟨⟨.loc 6,[]⟩,0,0⟩,.ptr ⟨⟨.loc 7,[]⟩,0,0⟩])]++rd 11,[(.loc 7,[ic c]),(.loc 6,[ic d]),(.loc 5,[ic e]),(.loc 4,[ic g,.nil,ic i,ic j,sc l,sc o,ic p])]⟩) (ad:=[]) (ps:=[]) ⟨Tryz.f76,by kernel_rfl,by kernel_rfl,by kernel_rfl⟩ (Ya (t:=some 18) (f:=76) hmix (ih _ _ h) (n:=6) (ad:=[(some 24,.call (.ret (.ag [ic z,.imm a1,ic b1,ic c1,sc d1,sc e1,ic f1])) [[.imm w,ic x,ic y]] false)]) (ps:=[_]) (m:=bm 30 1073479439) (ls:=[22]) (cs:=[]) (by kernel_rfl) ⟨(evI q),trivial⟩) (by kernel_rfl) trivial) (n:=3) (ad:=[]) (ps:=[]) (m:=bm 30 0) (ls:=[]) (cs:=[]) (by kernel_rfl) trivial
 |.h1 ..,h=>by rw[<- aR h];exact Yz (nb:=0) (t:=none) (f:=0) hmix (n:=2000) (ad:=[]) (ps:=[]) (bx':=[]) (by kernel_rfl) trivial
 |.h2 a b c d e g i j l m,h=>by rw[<- aR h];exact Yz (nb:=0) (t:=some 18) (f:=76) hmix (n:=2000) (ad:=[]) (ps:=[_]) (bx':=[[ic d,.imm e,ic g,ic i,sc j,sc l,ic m],[ic c],[ic b],[ic a]]) (by kernel_rfl) ⟨(qDA (b0_0:=d) (b0_1:=e) (b0_2:=g) (b0_3:=i) (b0_4:=j) (b0_5:=l) (b0_6:=m) (b1_0:=c) (b2_0:=b) (b3_0:=a)),trivial⟩
theorem ev43 {k:Nat}{a:Rs}{b:Int}{r:R43}(h:g43 k a b=some r):E43 a b r:=qnm (ok43 _ _ _ h)
instance {k:Nat} {a:Rs} {b:Int}:EvI (g43 k a b) 43 [cm a,cic b] [] qiP bx43:=⟨fun r h=>ev43 h⟩
def qly:R45->ARes
 |(.inl (a,b,_,_,_,_,_,_,_,_))=>.panic (.iface 44 (.agg #[.int .i64 a,.int .i64 b]))
 |(.inr (_,_,_,_,_,_,_,_))=>.ret .undef
def bx45:R45->List (List Cell)
 |(.inl (_,_,a,b,c,d,e,f,g,i))=>[[.imm a,ic b,.own 1 c,.own 7 d,ic e,ic f,sc g,ic i]]
 |(.inr (a,b,c,d,e,f,g,i))=>[[.imm a,ic b,.own 1 c,.own 7 d,ic e,ic f,sc g,ic i]]
def qvm (k:Nat)(rec:S45->Option R45):S45->Option R45
 |.e a b c d e f g i=>
  (tg 6 (g40b k (strB [83,84,82,65,84,69,71,89]) a b c d e f g i)).bind fun j=>
  altC j (fun l=>
    tup6 l fun m n o p q t=>
    some (.inl (m,n,o,p,q,t,e,f,g,i))) (fun l=>
    tup4 l fun o p q t=>
    (tg 15 (g42b k (strB [83,84,82,73,67,84]) o p q t e f g i)).bind fun u=>
    tup4 u fun v w x y=>
    bif v then
     rec (tg 9 (.h0 w p x y 1 f g i))
    else
     (tg 24 (g42b k (strB [78,69,88,84]) w p x y e f g i)).bind fun z=>
     tup4 z fun a1 b1 c1 d1=>
     bif a1 then
      rec (tg 12 (.h0 b1 p c1 d1 2 f g i))
     else
      (tg 33 (g42b k (strB [65,78,89]) b1 p c1 d1 e f g i)).bind fun e1=>
      tup4 e1 fun f1 g1 i1 j1=>
      bif f1 then
       rec (tg 15 (.h0 g1 p i1 j1 3 f g i))
      else
       (tg 10 (g47b k 13 g1 p i1 j1 e f g i)).bind fun l1=>
       tup5 l1 fun m1 n1 o1 p1 q1=>
       some (.inl (m1,n1,o1,p,p1,q1,e,f,g,i)))
 |.h0 a b c d e f g i=>
  (tg 50 (g40b k (strB [87,73,84,72,73,78]) a (IntKind.i64.wrap (b+1)) c d e f g i)).bind fun j=>
  altC j (fun l=>
    tup6 l fun m n o p q t=>
    some (.inl (m,n,o,p,q,t,e,f,g,i))) (fun l=>
    tup4 l fun o p q t=>
    (tg 54 (g46b k o p q t e f g i)).bind fun u=>
    tup8 u fun v _ w _ _ x y z=>
    bif tg 58 (v != 3)then
     (tg 62 (g47b k 13 x p y z e f g i)).bind fun a1=>
     tup5 a1 fun b1 c1 d1 e1 f1=>
     some (.inl (b1,c1,d1,p,e1,f1,e,f,g,i))
    else
     bif tg 66 (decide (w>1152921504606846976))then
      (tg 70 (g47b k 1 x p y z e f g i)).bind fun g1=>
      tup5 g1 fun i1 j1 l1 m1 n1=>
      some (.inl (i1,j1,l1,p,m1,n1,e,f,g,i))
     else
      (tg 89 (g42b k (strB [80,65,82,84,73,84,73,79,78]) x (IntKind.i64.wrap (p+1)) y z e w g i)).bind fun g1=>
      tup4 g1 fun o1 l1 m1 n1=>
      bif o1 then
       (tg 102 (g40b k (strB [66,89]) l1 (IntKind.i64.wrap ((IntKind.i64.wrap (p+1))+1)) m1 n1 e w g i)).bind fun p1=>
       altC p1 (fun q1=>
         tup6 q1 fun t1 u1 v1 w1 x1 y1=>
         some (.inl (t1,u1,v1,w1,x1,y1,e,w,g,i))) (fun q1=>
         tup4 q1 fun v1 w1 x1 y1=>
         (tg 107 (g46b k v1 w1 x1 y1 e w g i)).bind fun z1=>
         tup8 z1 fun _ _ _ _ a2 b2 c2 d2=>
         (tg 116 (g78b k b2 w1 c2 d2 e w g a2)).bind fun e2=>
         altC e2 (fun f2=>
           tup6 f2 fun g2 i2 j2 l2 m2 n2=>
           some (.inl (g2,i2,j2,l2,m2,n2,e,w,g,a2))) (fun f2=>
           tup5 f2 fun o2 j2 l2 m2 n2=>
           some (.inr (j2,l2,m2,n2,e,w,o2,a2))))
      else
       some (.inr (l1,IntKind.i64.wrap (p+1),m1,n1,e,w,g,i)))
def g45 (k:Nat)(a:Rs)(b:Int)(c d:Rs)(e f:Int)(g:By)(i:Int):Option R45:=itS qvm k (.e a b c d e f g i)
def P45:S45->R45->Prop
 |.e a b c d e f g i=>Fe Y45 qly bx45 [pP 0] [[.imm a,ic b,.own 1 c,.own 7 d,ic e,ic f,sc g,ic i]]
 |.h0 a b c d e f g i=>Fk Y45 qly bx45 [1,1,2] ([pP 0]++rd 119) [(.par 0,[.imm a,ic b,.own 1 c,.own 7 d,ic e,ic f,sc g,ic i])]
theorem ok45:∀ k s r,itS qvm k s=some r->P45 s r:=okU trivial
instance {k:Nat} {a:Rs} {b:Int} {c d:Rs} {e f:Int} {g:By} {i:Int}:EvI (g45 k a b c d e f g i) 45 [pP 0] [[.imm a,ic b,.own 1 c,.own 7 d,ic e,ic f,sc g,ic i]] qly bx45:=eI ok45
def qzT:R44b->ARes
 |r=>.ret (.c (.own 7 r))
def qv0 (k:Nat)(rec:S44b->Option R44b):S44b->Option R44b
 |.e a b c d e f g i=>
  bif tg 7 (b != 13)then
   gd (tg 11 (apOk 88 7 a [[ic b,.imm c,ic d,ic e,sc f,sc g,ic i]])) <|
   some (a++[[ic b,.imm c,ic d,ic e,sc f,sc g,ic i]])
  else
   ixR c (tg 15 0) fun j=>
   qE j fun l m n o p q t=>
   (tg 17 (rec (.e a l m n o p q t))).bind fun u=>
   ixR c (tg 20 1) fun v=>
   qE v fun w x y z a1 b1 c1=>
   (tg 22 (rec (.e u w x y z a1 b1 c1))).bind fun d1=>
   some d1
def g44b (k:Nat)(a:Rs)(b:Int)(c:Rs)(d e:Int)(f g:By)(i:Int):Option R44b:=itS qv0 k (.e a b c d e f g i)
def P44b:S44b->R44b->Prop
 |.e a b c d e f g i=>Fe Y44 qzT nB [.c (.own 7 a),.ag [ic b,.imm c,ic d,ic e,sc f,sc g,ic i]] []
instance {a:Rs} {b:Int} {c:Rs} {d e:Int} {f g:By} {i:Int}:EvS P44b id (.e a b c d e f g i) 44 [.c (.own 7 a),.ag [ic b,.imm c,ic d,ic e,sc f,sc g,ic i]] [] qzT nB:=⟨fun o h v e=>evF (h v e)⟩
theorem qFB:∀ k s r,itS qv0 k s=some r->P44b s r:=okU (And.intro @qu1 trivial)
instance {k:Nat} {a:Rs} {b:Int} {c:Rs} {d e:Int} {f g:By} {i:Int}:EvI (g44b k a b c d e f g i) 44 [.c (.own 7 a),.ag [ic b,.imm c,ic d,ic e,sc f,sc g,ic i]] [] qzT nB:=eI qFB
def qq1 (k:Nat)(rec:S44->Option R44):S44->Option R44
 |.e a b c d e f g=>
  bif tg 7 (a != 13)then
   some [[ic a,.imm b,ic c,ic d,sc e,sc f,ic g]]
  else
   ixR b (tg 15 0) fun i=>
   qE i fun j l m n o p q=>
   (tg 17 (rec (.e j l m n o p q))).bind fun t=>
   ixR b (tg 20 1) fun u=>
   qE u fun v w x y z a1 b1=>
   (tg 22 (g44b k t v w x y z a1 b1)).bind fun c1=>
   some c1
def g44 (k:Nat)(a:Int)(b:Rs)(c d:Int)(e f:By)(g:Int):Option R44:=itS qq1 k (.e a b c d e f g)
def P44:S44->R44->Prop
 |.e a b c d e f g=>Fe Y44 qzT nB [.c .nil,.ag [ic a,.imm b,ic c,ic d,sc e,sc f,ic g]] []
instance {a:Int} {b:Rs} {c d:Int} {e f:By} {g:Int}:EvS P44 id (.e a b c d e f g) 44 [.c .nil,.ag [ic a,.imm b,ic c,ic d,sc e,sc f,ic g]] [] qzT nB:=⟨fun o h v e=>evF (h v e)⟩
theorem ok44:∀ k s r,itS qq1 k s=some r->P44 s r:=okU (And.intro @qu1 trivial)
instance {k:Nat} {a:Int} {b:Rs} {c d:Int} {e f:By} {g:Int}:EvI (g44 k a b c d e f g) 44 [.c .nil,.ag [ic a,.imm b,ic c,ic d,sc e,sc f,ic g]] [] qzT nB:=eI ok44
def qvd (k:Nat)(rec:S14b->Option R14b):S14b->Option R14b
 |.e a b c d e f g i=>
  (tg 9 (g40b k (strB [80,65,84,84,69,82,78]) a b c d e f g i)).bind fun j=>
  altC j (fun l=>
    tup6 l fun m n o p q t=>
    some (.inl (m,n,o,p,q,t,e,f,g,i))) (fun l=>
    tup4 l fun o p q t=>
    (tg 11 (g41b k o p q t e f g i)).bind fun u=>
    altC u (fun v=>
      tup6 v fun w x y z a1 b1=>
      some (.inl (w,x,y,z,a1,b1,e,f,g,i))) (fun v=>
      tup4 v fun y z a1 b1=>
      rec (tg 7 (.h0 y z a1 b1 e f g i))))
 |.h0 a b c d e f g i=>
  (tg 15 (g42b k (strB [124]) a b c d e f g i)).bind fun j=>
  tup4 j fun l m n o=>
  bif l then
   (tg 26 (g41b k m (IntKind.i64.wrap (b+1)) n o e f g i)).bind fun p=>
   altC p (fun q=>
     tup6 q fun t u v w x y=>
     some (.inl (t,u,v,w,x,y,e,f,g,i))) (fun q=>
     tup4 q fun v w x y=>
     rec (tg 11 (.h0 v w x y e f g i)))
  else
   (tg 30 (g42b k (strB [87,72,69,82,69]) m b n o e f g i)).bind fun p=>
   tup4 p fun z a1 b1 c1=>
   bif z then
    (tg 51 (g43 k a1 (IntKind.i64.wrap (b+1)))).bind fun d1=>
    altC d1 (fun e1=>
      tup9 e1 fun f1 g1 i1 j1 l1 m1 n1 o1 p1=>
      rec (tg 17 (rg [] [(⟨⟨.loc 2,[]⟩,0,1⟩,none)] (.h1 n1 o1 p1 (p1 != 0) f1 [] g1 i1 j1 l1 m1 a1 (IntKind.i64.wrap (b+1)) b1 c1 e f g i)))) (fun e1=>
      ql e1 fun f1 q1 g1 i1 j1 l1 m1 n1 o1 p1=>
      rec (tg 17 (.h1 n1 o1 p1 (p1 != 0) f1 q1 g1 i1 j1 l1 m1 a1 (IntKind.i64.wrap (b+1)) b1 c1 e f g i)))
   else
    rec (tg 11 (.h2 a1 b b1 c1 e f g i))
 |.h1 a b c d e f g i j l m n o p q t u v w=>
  bif d then
   some (.inl (b,c,n,o,p,q,t,u,v,w))
  else
   (tg 69 (g44 k e f g i j l m)).bind fun x=>
   rec (tg 5 (rg [2] [] (.h2 n a p x t u v w)))
 |.h2 a b c d e f g i=>
  (tg 74 (g45 k a b c d e f g i)).bind fun j=>
  altC j (fun l=>
    ql l fun m n o p q t u v w x=>
    some (.inl (m,n,o,p,q,t,u,v,w,x))) (fun l=>
    tup8 l fun o p q t u v w x=>
    (tg 78 (g46b k o p q t u v w x)).bind fun y=>
    tup8 y fun z _ _ _ _ a1 b1 c1=>
    bif tg 80 (z != 0)then
     (tg 84 (g47b k 13 a1 p b1 c1 u v w x)).bind fun d1=>
     tup5 d1 fun e1 f1 g1 i1 j1=>
     some (.inl (e1,f1,g1,p,i1,j1,u,v,w,x))
    else
     some (.inr (a1,p,b1,c1,u,v,w,x)))
def g14b (k:Nat)(a:Rs)(b:Int)(c d:Rs)(e f:Int)(g:By)(i:Int):Option R14b:=itS qvd k (.e a b c d e f g i)
def P14b:S14b->R14b->Prop
 |.e a b c d e f g i=>Fe Y14 qly bx45 [pP 0] [[.imm a,ic b,.own 1 c,.own 7 d,ic e,ic f,sc g,ic i]]
 |.h0 a b c d e f g i=>Fk Y14 qly bx45 [1,1,0,0,4] ([pP 0]++rd 84) [(.par 0,[.imm a,ic b,.own 1 c,.own 7 d,ic e,ic f,sc g,ic i])]
 |.h1 a b c d e f g i j l m n o p q t u v w=>Fk Y14 qly bx45 [1,1,1,0,1,0,1,1,0,1,2] ([pP 0,.deadv,pL 2,cic a,cic b,cic c]++rd 51++[cbc d]++rd 27) [(.loc 2,[ic e,.imm f,ic g,ic i,sc j,sc l,ic m]),(.par 0,[.imm n,ic o,.own 1 p,.own 7 q,ic t,ic u,sc v,ic w])]
 |.h2 a b c d e f g i=>Fk Y14 qly bx45 [1,1,1,1,2] ([pP 0]++rd 84) [(.par 0,[.imm a,ic b,.own 1 c,.own 7 d,ic e,ic f,sc g,ic i])]
theorem qFm:∀ k s r,itS qvd k s=some r->P14b s r:=okU trivial
instance {k:Nat} {a:Rs} {b:Int} {c d:Rs} {e f:Int} {g:By} {i:Int}:EvI (g14b k a b c d e f g i) 14 [pP 0] [[.imm a,ic b,.own 1 c,.own 7 d,ic e,ic f,sc g,ic i]] qly bx45:=eI qFm
def res5:R5->ARes
 |(.inl (a,b,c,d,e,f,g,i))=>.ret ⟨.tup [true,false,false],[[.imm a,.imm b,ic c,ic d,sc e,ic f],[ic g],[ic i]]⟩
 |(.inr (a,b,c,d,e,f))=>.ret ⟨.tup [true,false,false],[[.nil,.nil,ic a,ic b,sc c,ic d],[ic e],[ic f]]⟩
def bx5:R5->List (List Cell)
 |(.inl (_,_,_,_,_,_,_,_))=>[]
 |(.inr (_,_,_,_,_,_))=>[]
def Qq (k:Nat)(rec:S5->Option R5):S5->Option R5
 |.e a=>
  (g12 k a).bind fun b=>
  altC b (fun c=>
    tup3 c fun d e f=>
    rec (.h0 d (f != 0) f e 0 0 (strB []) 0)) (fun c=>
    tup2 c fun e f=>
    rec (.h0 [] (f != 0) f e 0 0 (strB []) 0))
 |.h0 a b c d e f g i=>
  bif b then
   rec (.h1 c d [] [] 0 0 (strB []) 0)
  else
   rec (.h2 a 0 [] [] 0 0 (strB []) 0 c d e f g i)
 |.h1 a b c d e f g i=>some (.inl (c,d,e,f,g,i,b,a))
 |.h2 a b c d e f g i ..=>
  (g14b k a b c d e f g i).bind fun j=>
  altC j (fun l=>
    ql l fun m n _ _ o p q t u v=>
    some (.inr (0,0,strB [],0,m,n))) (fun l=>
    tup8 l fun _ _ o p q t u v=>
    (g15 k (qG o) (qG p) q t u v).bind fun w=>
    bif decide (w>200)then
     rec (.h3 2 0 [] [] 0 0 (strB []) 0)
    else
     rec (.h4 0 0 (qG o) (qG p) q t u v))
 |.h3 a b c d e f g i=>some (.inl (c,d,e,f,g,i,b,a))
 |.h4 a b c d e f g i=>some (.inl (c,d,e,f,g,i,b,a))
def g5 (k:Nat)(a:By):Option R5:=itS Qq k (.e a)
def P5:S5->R5->Prop
 |.e a,r=>FinD Y5.cx Tryz.f5 (DOf Y5.cx.P none 0) [.code Y5.code] (fr0 Tryz.f5 [csc a] []) (res5 r) (bx5 r)
 |.h0 a b c d e f g i,r=>FinD Y5.cx Tryz.f5 (DOf Y5.cx.P none 0) (kAt Y5.code [1,1,0,1,2] []) ⟨[.deadv,.deadv,pL 2,pL 3,pL 4,cm a]++rd 8++[cbc b]++rd 21,[(.loc 4,[ic c]),(.loc 3,[ic d]),(.loc 2,[.nil,.nil,ic e,ic f,sc g,ic i])]⟩ (res5 r) (bx5 r)
 |.h1 a b c d e f g i,r=>FinD Y5.cx Tryz.f5 (DOf Y5.cx.P none 0) (kAt Y5.code [1,1,0,1,0,1,2] []) ⟨[.deadv,.deadv,pL 2,pL 3,pL 4]++rd 31,[(.loc 4,[ic a]),(.loc 3,[ic b]),(.loc 2,[.imm c,.imm d,ic e,ic f,sc g,ic i])]⟩ (res5 r) (bx5 r)
 |.h2 a b c d e f g i j l m n o p,r=>FinD Y5.cx Tryz.f5 (DOf Y5.cx.P (some 18) 13) (kAt Y5.code [1,1,1,1,1,0,2] []) ⟨[.deadv,.deadv,pL 2,pL 3,pL 4,.deadv,pL 22]++rd 11++[.c (.clo 13 [] [.ptr ⟨⟨.loc 2,[]⟩,0,0⟩,.ptr ⟨⟨.loc 3,[]⟩,0,0⟩,.ptr ⟨⟨.loc 4,[]⟩,0,0⟩])]++rd 17,[(.loc 22,[.imm a,ic b,.own 1 c,.own 7 d,ic e,ic f,sc g,ic i]),(.loc 4,[ic j]),(.loc 3,[ic l]),(.loc 2,[.nil,.nil,ic m,ic n,sc o,ic p])]⟩ (res5 r) (bx5 r)
 |.h3 a b c d e f g i,r=>FinD Y5.cx Tryz.f5 (DOf Y5.cx.P (some 18) 13) (kAt Y5.code [1,1,1,1,1,1,0,1,0,1,2] []) ⟨[.deadv,.deadv,pL 2,pL 3,pL 4]++rd 13++[.c (.clo 13 [] [.ptr ⟨⟨.loc 2,[]⟩,0,0⟩,.ptr ⟨⟨.loc 3,[]⟩,0,0⟩,.ptr ⟨⟨.loc 4,[]⟩,0,0⟩])]++rd 17,[(.loc 4,[ic a]),(.loc 3,[ic b]),(.loc 2,[.imm c,.imm d,ic e,ic f,sc g,ic i])]⟩ (res5 r) (bx5 r)
 |.h4 a b c d e f g i,r=>FinD Y5.cx Tryz.f5 (DOf Y5.cx.P (some 18) 13) (kAt Y5.code [1,1,1,1,1,1,1,1,2] []) ⟨[.deadv,.deadv,pL 2,pL 3,pL 4]++rd 13++[.c (.clo 13 [] [.ptr ⟨⟨.loc 2,[]⟩,0,0⟩,.ptr ⟨⟨.loc 3,[]⟩,0,0⟩,.ptr ⟨⟨.loc 4,[]⟩,0,0⟩])]++rd 17,[(.loc 4,[ic a]),(.loc 3,[ic b]),(.loc 2,[.imm c,.imm d,ic e,ic f,sc g,ic i])]⟩ (res5 r) (bx5 r)
abbrev E5 (a:By)(r:R5):Prop:=Ev Tryz.prog noHand 5 [csc a] [] (res5 r) (bx5 r)
theorem evr5 {a:By}{r:R5}(h:P5 (.e a) r):E5 a r:=evD h
theorem qE2 {b0_2 b0_3:Int}{b0_4:ByteArray}{b0_5 b1_0 b2_0 pv_i00 pv_i01:Int}:EvD Tryz.prog (.panicking [{ v:=.iface 44 (.agg #[.int .i64 pv_i00,.int .i64 pv_i01]),recovered:=false }]) (.panicking [{ v:=.iface 44 (.agg #[.int .i64 pv_i00,.int .i64 pv_i01]),recovered:=true }]) 13 [pP 0,pP 1,pP 2] [[.nil,.nil,ic b0_2,ic b0_3,sc b0_4,ic b0_5],[ic b1_0],[ic b2_0]] (.ret .undef) [[.nil,.nil,ic 0,ic 0,sc (strB []),ic 0],[ic pv_i00],[ic pv_i01]]:=qcj (fn:=Tryz.f13) (body:=Y13.code) (cx:=Y13.cx) (nb:=3) (n:=2000) (val:=.iface 44 (.agg #[.int .i64 pv_i00,.int .i64 pv_i01])) (ad1:=[]) (ad2:=[]) (ps:=[]) (by kernel_rfl) (by kernel_rfl) rfl hmix rfl (.inl ⟨rfl,rfl⟩) (by kernel_rfl) trivial
theorem qDB {b0_0 b0_1:Rs}{b0_2 b0_3:Int}{b0_4:ByteArray}{b0_5 b1_0 b2_0:Int}:EvD Tryz.prog .returning .returning 13 [pP 0,pP 1,pP 2] [[.imm b0_0,.imm b0_1,ic b0_2,ic b0_3,sc b0_4,ic b0_5],[ic b1_0],[ic b2_0]] (.ret .undef) [[.imm b0_0,.imm b0_1,ic b0_2,ic b0_3,sc b0_4,ic b0_5],[ic b1_0],[ic b2_0]]:=qcj (fn:=Tryz.f13) (body:=Y13.code) (cx:=Y13.cx) (nb:=3) (n:=2000) (val:=.nilIface) (ad1:=[]) (ad2:=[]) (ps:=[]) (by kernel_rfl) (by kernel_rfl) rfl hmix rfl (.inr ⟨rfl,rfl,rfl⟩) (by kernel_rfl) trivial
theorem ok5:∀ k s r,itS Qq k s=some r->P5 s r:=qF fun k rec ih s r h=>match s,h with
 |.e ..,h=>by
  obtain⟨_,a,h⟩:=qh h;replace h:=qf h;rcases h with⟨_,rfl,h⟩|⟨_,rfl,h⟩
  . replace h:=qCL h;obtain⟨b,c,d,rfl,h⟩:=h;exact Ya (t:=none) (f:=0) hmix (ih _ _ h) (n:=7) (ad:=[(some 9,.call (.ret ⟨.tup [false,false,false],[[.imm b],[ic c],[ic d]]⟩) [] false)]) (ps:=[_]) (m:=bm 36 68719460291) (ls:=[]) (cs:=[]) (by kernel_rfl) ⟨(evI a),trivial⟩
  . replace h:=QD h;obtain⟨c,d,rfl,h⟩:=h;exact Ya (t:=none) (f:=0) hmix (ih _ _ h) (n:=7) (ad:=[(some 9,.call (.ret ⟨.tup [false,false,false],[[.nil],[ic c],[ic d]]⟩) [] false)]) (ps:=[_]) (m:=bm 36 68719460291) (ls:=[]) (cs:=[(⟨⟨.slot 5,[]⟩,0,0⟩,none)]) (by kernel_rfl) ⟨(evI a),trivial⟩
 |.h0 a _ b c d e g i,h=>by
  replace h:=qa h;rcases h with⟨rfl,h⟩|⟨rfl,h⟩
  . exact Ya (t:=none) (f:=0) hmix (ih _ _ h) (n:=3) (ad:=[]) (ps:=[]) (m:=bm 36 68719476707) (ls:=[]) (cs:=[(⟨⟨.loc 2,[]⟩,0,0⟩,none),(⟨⟨.loc 2,[]⟩,0,1⟩,none)]) (by kernel_rfl) trivial
  . exact Ya (t:=none) (f:=0) hmix (qg9 (Q:=fun G0 w0=>bodyPostD Y5.cx.P Tryz.f5 (Went G0 w0 _ _)) (K0:=(kAt Y5.code [1,1,1,0,2] [])) (F:=⟨[.deadv,.deadv,pL 2,pL 3,pL 4,cm a]++rd 8++[cbc false]++rd 21,[(.loc 4,[ic b]),(.loc 3,[ic c]),(.loc 2,[.nil,.nil,ic d,ic e,sc g,ic i])]⟩) (k:=18) (f:=13) (K1:=(kAt Y5.code [1,1,1,0,3] [])) (F1:=⟨[.deadv,.deadv,pL 2,pL 3,pL 4,cm a]++rd 8++[cbc false]++rd 3++[.c (.clo 13 [] [.ptr ⟨⟨.loc 2,[]⟩,0,0⟩,.ptr ⟨⟨.loc 3,[]⟩,0,0⟩,.ptr ⟨⟨.loc 4,[]⟩,0,0⟩])]++rd 17,[(.loc 4,[ic b]),(.loc 3,[ic c]),(.loc 2,[.nil,.nil,ic d,ic e,sc g,ic i])]⟩) (ad:=[]) (ps:=[]) ⟨Tryz.f13,by kernel_rfl,by kernel_rfl,by kernel_rfl⟩ (Ya (t:=some 18) (f:=13) hmix (ih _ _ h) (n:=3) (ad:=[]) (ps:=[]) (m:=bm 36 68719214499) (ls:=[]) (cs:=[(⟨⟨.loc 22,[]⟩,0,2⟩,some 1),(⟨⟨.loc 22,[]⟩,0,3⟩,some 7)]) (by kernel_rfl) trivial) (by kernel_rfl) trivial) (n:=3) (ad:=[]) (ps:=[]) (m:=bm 36 0) (ls:=[]) (cs:=[]) (by kernel_rfl) trivial
 |.h1 ..,h=>by rw[<- aR h];exact Yz (nb:=0) (t:=none) (f:=0) hmix (n:=2000) (ad:=[]) (ps:=[]) (bx':=[]) (by kernel_rfl) trivial
 |.h2 _ _ _ _ _ _ _ _ a b c d e g,h=>by
  obtain⟨_,i,h⟩:=qh h;replace h:=qf h;rcases h with⟨_,rfl,h⟩|⟨_,rfl,h⟩
  . replace h:=qjf h;obtain⟨j,l,o,p,q,u,v,w,x,y,rfl,h⟩:=h;rw[<- aR h];exact Yz (nb:=0) (t:=some 18) (f:=13) hmix (n:=2000) (ad:=[(some 24,.call (.panic (.iface 44 (.agg #[.int .i64 j,.int .i64 l]))) [[.imm o,ic p,.own 1 q,.own 7 u,ic v,ic w,sc x,ic y]] false)]) (ps:=[_,_]) (bx':=[[.nil,.nil,ic 0,ic 0,sc (strB []),ic 0],[ic j],[ic l]]) (by kernel_rfl) ⟨(evI i),(qE2 (b0_2:=c) (b0_3:=d) (b0_4:=e) (b0_5:=g) (b1_0:=b) (b2_0:=a) (pv_i00:=j) (pv_i01:=l)),trivial⟩
  . replace h:=qCM h;obtain⟨o,p,q,u,v,w,x,y,rfl,h⟩:=h;obtain⟨z,a1,h⟩:=qh h;rcases qa h with⟨b1,h⟩|⟨b1,h⟩
    . exact Ya (t:=some 18) (f:=13) hmix (ih _ _ h) (n:=7) (ad:=[(some 24,.call (.ret .undef) [[.imm o,ic p,.own 1 q,.own 7 u,ic v,ic w,sc x,ic y]] false),(some 29,.call (.ret (cic z)) [] true),(some 30,.test true)]) (ps:=[_,_,_,_]) (m:=bm 36 68719214563) (ls:=[22]) (cs:=[(⟨⟨.loc 2,[]⟩,0,0⟩,none),(⟨⟨.loc 2,[]⟩,0,1⟩,none)]) (by kernel_rfl) ⟨(evI i),(evI a1),(rfl:true=true),b1,trivial⟩
    . exact Ya (t:=some 18) (f:=13) hmix (ih _ _ h) (n:=8) (ad:=[(some 24,.call (.ret .undef) [[.imm o,ic p,.own 1 q,.own 7 u,ic v,ic w,sc x,ic y]] false),(some 29,.call (.ret (cic z)) [] true),(some 30,.test false)]) (ps:=[_,_,_,_]) (m:=bm 36 68719214563) (ls:=[22]) (cs:=[]) (by kernel_rfl) ⟨(evI i),(evI a1),(rfl:true=true),b1,trivial⟩
 |.h3 a b c d e g i j,h=>by rw[<- aR h];exact Yz (nb:=0) (t:=some 18) (f:=13) hmix (n:=2000) (ad:=[]) (ps:=[_]) (bx':=[[.imm c,.imm d,ic e,ic g,sc i,ic j],[ic b],[ic a]]) (by kernel_rfl) ⟨(qDB (b0_0:=c) (b0_1:=d) (b0_2:=e) (b0_3:=g) (b0_4:=i) (b0_5:=j) (b1_0:=b) (b2_0:=a)),trivial⟩
 |.h4 a b c d e g i j,h=>by rw[<- aR h];exact Yz (nb:=0) (t:=some 18) (f:=13) hmix (n:=2000) (ad:=[]) (ps:=[_]) (bx':=[[.imm c,.imm d,ic e,ic g,sc i,ic j],[ic b],[ic a]]) (by kernel_rfl) ⟨(qDB (b0_0:=c) (b0_1:=d) (b0_2:=e) (b0_3:=g) (b0_4:=i) (b0_5:=j) (b1_0:=b) (b2_0:=a)),trivial⟩
theorem ev5 {k:Nat}{a:By}{r:R5}(h:g5 k a=some r):E5 a r:=evr5 (ok5 _ _ _ h)
instance {k:Nat} {a:By}:EvI (g5 k a) 5 [csc a] [] res5 bx5:=⟨fun r h=>ev5 h⟩
def qm4 (k:Nat)(rec:S7->Option R7):S7->Option R7
 |.e=>
  (tg 7 (g5 k (strB [80,65,84,84,69,82,78,32,83,69,81,40,65,32,97,44,33,66,32,98,44,67,43,99,41,87,72,69,82,69,32,97,46,120,61,49,32,65,78,68,40,99,46,120,62,50,32,65,78,68,32,98,46,120,61,97,46,120,41,83,84,82,65,84,69,71,89,32,78,69,88,84,32,87,73,84,72,73,78,32,53,32,80,65,82,84,73,84,73,79,78,32,66,89,32,107]))).bind fun a=>
  altC a (fun b=>
    tup8 b fun c d e f g i j l=>
    (tg 13 (qw5 k c d e f g i)).bind fun m=>
    tup2 m fun n o=>
    bif tg 17 (l==0)then
     bif tg 20 (j==0)then
      bif tg 24 (o==0)then
       bif tg 30 ((d.length:Int)==3)then
        some (n.toList==(strB [80,65,84,84,69,82,78,32,83,69,81,40,65,32,97,44,32,33,66,32,98,44,32,67,43,32,99,41,32,87,72,69,82,69,32,97,46,120,32,61,32,49,32,65,78,68,32,99,46,120,32,62,32,50,32,65,78,68,32,98,46,120,32,61,32,97,46,120,32,83,84,82,65,84,69,71,89,32,78,69,88,84,32,87,73,84,72,73,78,32,53,32,80,65,82,84,73,84,73,79,78,32,66,89,32,107]).toList)
       else
        some false
      else
       some false
     else
      some false
    else
     some false) (fun b=>
    tup6 b fun e f g i j l=>
    (tg 13 (qw5 k [] [] e f g i)).bind fun m=>
    tup2 m fun n o=>
    bif tg 17 (l==0)then
     bif tg 20 (j==0)then
      bif tg 24 (o==0)then
       some false
      else
       some false
     else
      some false
    else
     some false)
def g7 (k:Nat):Option R7:=itS qm4 k (.e)
def P7:S7->R7->Prop
 |.e=>Fe Y7 qzQ nB [] []
theorem ok7:∀ k s r,itS qm4 k s=some r->P7 s r:=okU trivial
instance {k:Nat}:EvI (g7 k ) 7 [] [] qzQ nB:=eI ok7
def qhG:R25->ARes
 |(a,b,c,d,e,f,g)=>.ret (.ag [ic a,.imm b,ic c,ic d,sc e,sc f,ic g])
def qjZ (k:Nat)(rec:S25->Option R25):S25->Option R25
 |.e a b c d e f g=>rec (tg 9 (rg [] [(⟨⟨.slot 3,[]⟩,0,0⟩,some 7)] (.h0 [] (b.length:Int) 0 0 0 0 (strB []) (strB []) 0 a b c d e f g)))
 |.h0 a b c d e f g i j l m n o p q t=>
  bif tg 9 (decide (c<b))then
   ixR m (tg 15 c) fun u=>
   qE u fun v w x y z a1 b1=>
   (tg 17 (rec (.e v w x y z a1 b1))).bind fun c1=>
   tup7 c1 fun d1 e1 f1 g1 i1 j1 l1=>
   gd (tg 19 (apOk 88 7 a [[ic d1,.imm e1,ic f1,ic g1,sc i1,sc j1,ic l1]])) <|
   rec (tg 13 (.h0 (a++[[ic d1,.imm e1,ic f1,ic g1,sc i1,sc j1,ic l1]]) b (IntKind.i64.wrap (c+1)) d e f g i j l m n o p q t))
  else
   some (l,qG a,n,o,p,q,t)
def g25 (k:Nat)(a:Int)(b:Rs)(c d:Int)(e f:By)(g:Int):Option R25:=itS qjZ k (.e a b c d e f g)
def P25:S25->R25->Prop
 |.e a b c d e f g=>Fe Y25 qhG nB [.ag [ic a,.imm b,ic c,ic d,sc e,sc f,ic g]] []
 |.h0 a b c d e f g i j l m n o p q t=>Fk Y25 qhG nB [1,1,0,1,0,4] ([.deadv,pL 1,pL 2,.c (.own 7 a)]++rd 3++[cic b,cic c]++rd 15) [(.loc 2,[ic d,.nil,ic e,ic f,sc g,sc i,ic j]),(.loc 1,[ic l,.imm m,ic n,ic o,sc p,sc q,ic t])]
instance {a:Int} {b:Rs} {c d:Int} {e f:By} {g:Int}:EvS P25 id (.e a b c d e f g) 25 [.ag [ic a,.imm b,ic c,ic d,sc e,sc f,ic g]] [] qhG nB:=⟨fun o h v e=>evF (h v e)⟩
theorem ok25:∀ k s r,itS qjZ k s=some r->P25 s r:=okU (And.intro @qu1 trivial)
instance {k:Nat} {a:Int} {b:Rs} {c d:Int} {e f:By} {g:Int}:EvI (g25 k a b c d e f g) 25 [.ag [ic a,.imm b,ic c,ic d,sc e,sc f,ic g]] [] qhG nB:=eI ok25
def res9:R9->ARes
 |(a,b,c,d,e,f)=>.ret (.ag [.imm a,.imm b,ic c,ic d,sc e,ic f])
def qn6 (k:Nat)(rec:S9->Option R9):S9->Option R9
 |.e a b c d e f=>rec (tg 9 (rg [] [(⟨⟨.slot 3,[]⟩,0,0⟩,some 1)] (.h0 [] a (a.length:Int) 0 0 0 (strB []) 0 a b c d e f)))
 |.h0 a b c d e f g i j l m n o p=>
  bif tg 12 (decide (d<c))then
   ixR b (tg 13 d) fun q=>
   un_m q fun t=>
   gd (tg 18 (apOk 48 4 [] t)) <|
   gd (tg 20 (apOk 24 1 a [[.own 4 (([]:Rs)++t)]])) <|
   rec (tg 13 (.h0 (a++[[.own 4 (([]:Rs)++t)]]) b c (IntKind.i64.wrap (d+1)) e f g i j l m n o p))
  else
   rec (tg 13 (rg [] [(⟨⟨.slot 6,[]⟩,0,0⟩,some 7)] (.h1 a [] (l.length:Int) 0 e f g i j l m n o p)))
 |.h1 a b c d e f g i j l m n o p=>
  bif tg 26 (decide (d<c))then
   ixR l (tg 32 d) fun q=>
   qE q fun t u v w x y z=>
   (tg 34 (g25 k t u v w x y z)).bind fun a1=>
   tup7 a1 fun b1 c1 d1 e1 f1 g1 i1=>
   gd (tg 36 (apOk 88 7 b [[ic b1,.imm c1,ic d1,ic e1,sc f1,sc g1,ic i1]])) <|
   rec (tg 13 (.h1 a (b++[[ic b1,.imm c1,ic d1,ic e1,sc f1,sc g1,ic i1]]) c (IntKind.i64.wrap (d+1)) e f g i j l m n o p))
  else
   some (qG a,qG b,m,n,o,p)
def g9 (k:Nat)(a b:Rs)(c d:Int)(e:By)(f:Int):Option R9:=itS qn6 k (.e a b c d e f)
def P9:S9->R9->Prop
 |.e a b c d e f=>Fe Y9 res9 nB [.ag [.imm a,.imm b,ic c,ic d,sc e,ic f]] []
 |.h0 a b c d e f g i j l m n o p=>Fk Y9 res9 nB [1,1,0,1,0,4] ([.deadv,pL 1,pL 2,.c (.own 1 a)]++rd 5++[cm b,cic c,cic d]++rd 31) [(.loc 2,[.nil,.nil,ic e,ic f,sc g,ic i]),(.loc 1,[.imm j,.imm l,ic m,ic n,sc o,ic p])]
 |.h1 a b c d e f g i j l m n o p=>Fk Y9 res9 nB [1,1,1,1,0,1,0,4] ([.deadv,pL 1,pL 2,.c (.own 1 a),.deadv,.deadv,.c (.own 7 b)]++rd 17++[cic c,cic d]++rd 17) [(.loc 2,[.nil,.nil,ic e,ic f,sc g,ic i]),(.loc 1,[.imm j,.imm l,ic m,ic n,sc o,ic p])]
theorem ok9:∀ k s r,itS qn6 k s=some r->P9 s r:=okU (And.intro @qu1 (And.intro @qwI trivial))
instance {k:Nat} {a b:Rs} {c d:Int} {e:By} {f:Int}:EvI (g9 k a b c d e f) 9 [.ag [.imm a,.imm b,ic c,ic d,sc e,ic f]] [] res9 nB:=eI ok9
def qyN (k:Nat)(rec:S79->Option R79):S79->Option R79
 |.e a=>
  bif tg 4 (decide (a>=97))then
   bif tg 7 (decide (a<=122))then
    some true
   else
    bif tg 11 (decide (a>=65))then
     some (decide (a<=90))
    else
     some false
  else
   bif tg 11 (decide (a>=65))then
    some (decide (a<=90))
   else
    some false
def g79 (k:Nat)(a:Int):Option R79:=itS qyN k (.e a)
def P79:S79->R79->Prop
 |.e a=>Fe Y79 qzQ nB [cu a] []
theorem ok79:∀ k s r,itS qyN k s=some r->P79 s r:=okU trivial
instance {k:Nat} {a:Int}:EvI (g79 k a) 79 [cu a] [] qzQ nB:=eI ok79
end
end Ab
end Go.Proofs.YtgfbbmjoflehlaaGreatDoor
