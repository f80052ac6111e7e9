import Derived.Test.YtedeloeobocpiaaGreatRows
import Derived.IntWalk
import Derived.Test.YtedeloeobocpiaaGreatZSh18toSh36
set_option linter.all false
set_option maxHeartbeats 8000000
namespace Go.Sh
open Go Go.Proofs
variable [Con]
abbrev lE'{α:Type}(a:List α):Prop:=List.length a=List.length a
abbrev cK9:List Code1:=[some .i64,some .i64,some .i64,some .i64,some .i64,some .i64,some .i64,none,some .i64]
abbrev cK7:List Code1:=[some .i64,none,some .i64,some .i64,some .i64,none,some .i64]
abbrev cK3:List Code1:=[some .i64,some .i64,some .i64]
abbrev tO'(n:Nat)(l:List AVal):List AVal:=List.replicate n .O++l
abbrev AVal.I(n:Int):AVal:=.int .i64 n
abbrev AVal.N:AVal:=.raw (.pointer none)
abbrev W(x:Int):Int:=IntKind.wrap IntKind.i64 x
abbrev WU(x:Int):Int:=IntKind.wrap IntKind.u64 x
theorem cT{x:Int}(h: -9223372036854775808≤x∧x≤9223372036854775807):IntKind.wrap IntKind.i64 x=x:=IntWalk.i64_in x h
structure MS where
 t:Int
 n:Int
 xs:List Int
 c:Int
 k:Int
 a:Int
 o:Int
 w:Int
 ok:Bool
structure AL where
 got:Int
 at':Int
 left:Int
 found:Int
 free:Bool
structure SWS where
 ph:Nat
 N:List Int
 m:List (Int×Int)
 i:Int
 ks:List Int
 fs:List Int
 gs:List Int
 j:Nat
 l:Nat
structure ENS where
 ph:Nat
 sh:Bool
 dn:Bool
 x:AL
 y:SWS
structure STS where
 me:Int
 sp:Int
 R:List Int
structure PLN where
 now:Bool
 code:Int
 okk:Bool
 val:Int
 addr:Int
 old:Int
 nxt:Int
 mark:Bool
 pops:Int
structure CLS where
 addr:Int
 at':Int
 word:Int
 found:Int
structure PRS where
 key:Int
 nxt:Int
 found:Int
 loaded:Bool
structure HDS where
 u:Int
 no:Int
 at':Int
 tk:Bool
structure DRS where
 th:Int
 at':Int
structure ANS where
 no:Int
 me:Int
 at':Int
 bits:Int
 wrong:Bool
 found:Int
structure AWS where
 code:Int
 okk:Bool
 val:Int
 me:Int
structure EXS where
 popped:Int
 gave:Int
 u:Int
 sh:Int
 kd:Int
 ky:Int
 only:Bool
 att:Int
 at':Int
 found:Int
 word:Int
structure FNS where
 pred:Int
 pw:Int
 curr:Int
 cw:Int
 tries:Int
 ul:List Int
 ab:Bool
 me:Int
 frm:Int
 key:Int
 limit:Int
 at':Int
 moved:Int
 cl:CLS
structure FTS where
 code:Int
 okk:Bool
 val:Int
 failed:Bool
 tries:Int
 sh:Int
 kd:Int
 ky:Int
 most:Int
 at':Int
 p:PLN
 fn:FNS
 cl:CLS
 pr:PRS
structure HPS where
 u:Int
 no:Int
 rounds:Int
 limit:Int
 at':Int
 found:Int
 sh:Int
 kd:Int
 ky:Int
 p:PLN
 ex:EXS
 en:ENS
 fn:FNS
 cl:CLS
 pr:PRS
structure DOS where
 code:Int
 okk:Bool
 val:Int
 slow:Bool
 sh:Int
 kd:Int
 ky:Int
 limit:Int
 at':Int
 hd:HDS
 hp:HPS
 en:ENS
 ft:FTS
 an:ANS
 aw:AWS
 fn:FNS
 dr:DRS
 sw:SWS
instance:Inhabited PLN:=⟨⟨false,0,false,0,0,0,0,false,0⟩⟩
abbrev eO:DRS:=⟨0,0⟩
abbrev dW:HDS:=⟨0,0,0,false⟩
abbrev dV:AWS:=⟨0,false,0,0⟩
abbrev bC:CLS:=⟨0,0,0,0⟩
abbrev cQ:PRS:=⟨0,0,0,false⟩
abbrev bH:SWS:=⟨0,[],[],0,[],[],[],0,0⟩
abbrev aBb:PLN:=⟨false,0,false,0,0,0,0,false,0⟩
abbrev dU:ANS:=⟨0,0,0,0,false,0⟩
abbrev aS:ENS:=⟨0,false,false,⟨0,0,0,0,false⟩,⟨0,[],[],0,[],[],[],0,0⟩⟩
abbrev cN:EXS:=⟨0,0,0,0,0,0,false,0,0,0,0⟩
abbrev aM:FNS:=⟨0,0,0,0,0,[],false,0,0,0,0,0,0,⟨0,0,0,0⟩⟩
abbrev bQ:FTS:=⟨0,false,0,false,0,0,0,0,0,0,⟨false,0,false,0,0,0,0,false,0⟩,⟨0,0,0,0,0,[],false,0,0,0,0,0,0,⟨0,0,0,0⟩⟩,⟨0,0,0,0⟩,⟨0,0,0,false⟩⟩
abbrev bR:HPS:=⟨0,0,0,0,0,0,0,0,0,⟨false,0,false,0,0,0,0,false,0⟩,⟨0,0,0,0,0,0,false,0,0,0,0⟩,⟨0,false,false,⟨0,0,0,0,false⟩,⟨0,[],[],0,[],[],[],0,0⟩⟩,⟨0,0,0,0,0,[],false,0,0,0,0,0,0,⟨0,0,0,0⟩⟩,⟨0,0,0,0⟩,⟨0,0,0,false⟩⟩
abbrev aBa:DOS:=⟨0,false,0,false,0,0,0,0,0,⟨0,0,0,false⟩,⟨0,0,0,0,0,0,0,0,0,⟨false,0,false,0,0,0,0,false,0⟩,⟨0,0,0,0,0,0,false,0,0,0,0⟩,⟨0,false,false,⟨0,0,0,0,false⟩,⟨0,[],[],0,[],[],[],0,0⟩⟩,⟨0,0,0,0,0,[],false,0,0,0,0,0,0,⟨0,0,0,0⟩⟩,⟨0,0,0,0⟩,⟨0,0,0,false⟩⟩,⟨0,false,false,⟨0,0,0,0,false⟩,⟨0,[],[],0,[],[],[],0,0⟩⟩,⟨0,false,0,false,0,0,0,0,0,0,⟨false,0,false,0,0,0,0,false,0⟩,⟨0,0,0,0,0,[],false,0,0,0,0,0,0,⟨0,0,0,0⟩⟩,⟨0,0,0,0⟩,⟨0,0,0,false⟩⟩,⟨0,0,0,0,false,0⟩,⟨0,false,0,0⟩,⟨0,0,0,0,0,[],false,0,0,0,0,0,0,⟨0,0,0,0⟩⟩,⟨0,0⟩,⟨0,[],[],0,[],[],[],0,0⟩⟩
inductive Mc where
 | sweep (t n:Int) (y:SWS)
 | ensure (t n:Int) (e:ENS)
 | store (t n:Int) (s:STS)
 | clear (t n:Int) (x:CLS)
 | prepare (t n:Int) (x:PRS)
 | head (t n:Int) (x:HDS)
 | drop (t n:Int) (x:DRS)
 | announce (t n:Int) (x:ANS)
 | answer (t n:Int) (x:AWS)
 | exec (t n:Int) (x:EXS)
 | find (t n:Int) (x:FNS)
 | fast (t n:Int) (x:FTS)
 | help (t n:Int) (x:HPS)
 | doer (t n:Int) (x:DOS)
abbrev Ob:=Mc
def VI(t n:Int)(x:AL):Option (aK Mc):=some (.cells [.int .i64 t,.int .i64 n,.int .i64 x.got,.int .i64 x.at',.int .i64 x.left,.int .u64 x.found,.bool x.free])
def P1(t n:Int)(y:SWS):aD Mc:=match y.ph with
 | 0=>[some (.cells [.ptr 1 0,.raw (.pointer none)]),none]
 | 1=>[some (.cells [.ptr 1 0,.ptr 2 0]),none,some (.cells [.int .i64 t,.int .i64 n,.raw (.slice none 0 0),.raw (.slice none 0 0),.slice 3 0 y.N.length 1,.map 4,.int .i64 y.i,.raw (.pointer none)]),some (.ints (some .i64) y.N),some (.imap .i64 none y.m)]
 | 2=>[some (.cells [.ptr 1 0,.ptr 2 0]),none,some (.cells [.int .i64 t,.int .i64 n,.slice 3 0 y.ks.length 1,.slice 4 0 y.fs.length 1,.slice 5 0 y.N.length 1,.map 6,.int .i64 y.i,.ptr 7 0]),some (.ints (some .i64) y.ks),some (.ints (some .i64) y.fs),some (.ints (some .i64) y.N),some (.imap .i64 none y.m),some (.cells [.int .i64 t,.int .i64 n,.slice 8 y.j y.l 1]),some (.ints (some .i64) y.gs)]
 | _=>[some (.cells [.ptr 1 0,.O]),none]
def G7(t n:Int)(e:ENS):aD Mc:=match e.ph with
 | 0=>[some (.cells [.ptr 1 0,.bool e.sh,.raw (.pointer none),.raw (.pointer none),.bool e.dn]),none]
 | 1=>[some (.cells [.ptr 1 0,.bool e.sh,.ptr 2 0,.raw (.pointer none),.bool e.dn]),none,VI t n e.x]
 | 2=>[some (.cells [.ptr 1 0,.bool e.sh,.ptr 2 0,.ptr 3 0,.bool e.dn]),none,VI t n e.x,some (.cells [.ptr 1 0,.raw (.pointer none)])]
 | 3=>[some (.cells [.ptr 1 0,.bool e.sh,.ptr 2 0,.ptr 3 0,.bool e.dn]),none,VI t n e.x,some (.cells [.ptr 1 0,.ptr 4 0]),some (.cells [.int .i64 t,.int .i64 n,.raw (.slice none 0 0),.raw (.slice none 0 0),.slice 5 0 e.y.N.length 1,.map 6,.int .i64 e.y.i,.raw (.pointer none)]),some (.ints (some .i64) e.y.N),some (.imap .i64 none e.y.m)]
 | _=>[some (.cells [.ptr 1 0,.bool e.sh,.ptr 2 0,.ptr 3 0,.bool e.dn]),none,VI t n e.x,some (.cells [.ptr 1 0,.ptr 4 0]),some (.cells [.int .i64 t,.int .i64 n,.slice 5 0 e.y.ks.length 1,.slice 6 0 e.y.fs.length 1,.slice 7 0 e.y.N.length 1,.map 8,.int .i64 e.y.i,.ptr 9 0]),some (.ints (some .i64) e.y.ks),some (.ints (some .i64) e.y.fs),some (.ints (some .i64) e.y.N),some (.imap .i64 none e.y.m),some (.cells [.int .i64 t,.int .i64 n,.slice 10 e.y.j e.y.l 1]),some (.ints (some .i64) e.y.gs)]
def dG(t n:Int)(s:STS):aD Mc:=[some (.cells [.int .i64 t,.int .i64 n,.int .i64 s.me,.int .i64 s.sp,.slice 1 0 s.R.length 1]),some (.ints (some .i64) s.R)]
theorem bW{a b:Int}(h:a≠b):ieq a b=false:=by
 rw [bI];simpa using h
abbrev lX(t n:Int)(x:CLS):aD Mc:=[some (.cells [.int .i64 t,.int .i64 n,.int .i64 x.addr,.int .i64 x.at',.int .u64 x.word,.int .u64 x.found])]
def XO(t n:Int)(x:CLS):aD Mc:=lX t n x
abbrev lL(t n:Int)(x:PRS):aD Mc:=[some (.cells [.ptr 1 0,.int .i64 x.key,.int .i64 x.nxt,.int .u64 x.found,.bool x.loaded]),none]
def PF(t n:Int)(x:PRS):aD Mc:=lL t n x
abbrev zB(t n:Int)(x:HDS):aD Mc:=[some (.cells [.int .i64 t,.int .i64 n,.int .i64 x.u,.int .u64 x.no,.int .i64 x.at',.bool x.tk])]
def aBH(t n:Int)(x:HDS):aD Mc:=zB t n x
abbrev yS(t n:Int)(x:DRS):aD Mc:=[some (.cells [.int .i64 t,.int .i64 n,.int .i64 x.th,.int .i64 x.at'])]
def aBs(t n:Int)(x:DRS):aD Mc:=yS t n x
abbrev eM(t n:Int)(x:ANS):aD Mc:=[some (.cells [.int .i64 t,.int .i64 n,.int .u64 x.no,.int .i64 x.me,.int .i64 x.at',.int .u64 x.bits,.bool x.wrong,.int .u64 x.found])]
def IU(t n:Int)(x:ANS):aD Mc:=eM t n x
abbrev pN(t n:Int)(x:AWS):aD Mc:=[some (.cells [.int .i64 t,.int .i64 n,.int .i64 x.code,.bool x.okk,.int .i64 x.val,.int .i64 x.me])]
def QY(t n:Int)(x:AWS):aD Mc:=pN t n x
abbrev gJ(t n:Int)(x:EXS):aD Mc:=[some (.cells [.int .i64 t,.int .i64 n,.int .i64 x.popped,.int .i64 x.gave,.int .i64 x.u,.int .i64 x.sh,.int .i64 x.kd,.int .i64 x.ky,.bool x.only,.int .i64 x.att,.int .i64 x.at',.int .u64 x.found,.int .u64 x.word])]
def aBy(t n:Int)(x:EXS):aD Mc:=gJ t n x
abbrev kH(t n:Int)(x:FNS):aD Mc:=[some (.cells [.int .i64 t,.int .i64 n,.int .i64 x.pred,.int .u64 x.pw,.int .i64 x.curr,.int .u64 x.cw,.int .i64 x.tries,.slice 1 0 x.ul.length 1,.bool x.ab,.int .i64 x.me,.int .i64 x.frm,.int .i64 x.key,.int .i64 x.limit,.int .i64 x.at',.int .i64 x.moved,.O]),some (.ints (some .i64) x.ul)]
abbrev p8(t n:Int)(x:FNS):aD Mc:=[some (.cells [.int .i64 t,.int .i64 n,.int .i64 x.pred,.int .u64 x.pw,.int .i64 x.curr,.int .u64 x.cw,.int .i64 x.tries,.slice 1 0 x.ul.length 1,.bool x.ab,.int .i64 x.me,.int .i64 x.frm,.int .i64 x.key,.int .i64 x.limit,.int .i64 x.at',.int .i64 x.moved,.ptr 2 0]),some (.ints (some .i64) x.ul),some (.abs (.clear t n x.cl) [])]
def B3(t n:Int)(x:FNS):aD Mc:=bif ieq x.at' 4 then p8 t n x else kH t n x
theorem gY{t n:Int}{x:FNS}(h:x.at'≠4):B3 t n x=kH t n x:=by
 have h4:=h
 unfold B3
 rw [bW h4];rfl
theorem HM{t n:Int}{x:FNS}(h:x.at'=4):B3 t n x=p8 t n x:=by
 unfold B3;rw [h];rfl
abbrev uH(t n:Int)(x:FTS):aD Mc:=[some (.cells [.ptr 1 0,.int .i64 x.code,.bool x.okk,.int .i64 x.val,.bool x.failed,.int .i64 x.tries,.int .i64 x.sh,.int .i64 x.kd,.int .i64 x.ky,.int .i64 x.most,.int .i64 x.at',.bool x.p.now,.int .i64 x.p.code,.bool x.p.okk,.int .i64 x.p.val,.int .i64 x.p.addr,.int .u64 x.p.old,.int .i64 x.p.nxt,.bool x.p.mark,.int .i64 x.p.pops,.O,.O,.O]),none]
abbrev lB(t n:Int)(x:FTS):aD Mc:=[some (.cells [.ptr 1 0,.int .i64 x.code,.bool x.okk,.int .i64 x.val,.bool x.failed,.int .i64 x.tries,.int .i64 x.sh,.int .i64 x.kd,.int .i64 x.ky,.int .i64 x.most,.int .i64 x.at',.bool x.p.now,.int .i64 x.p.code,.bool x.p.okk,.int .i64 x.p.val,.int .i64 x.p.addr,.int .u64 x.p.old,.int .i64 x.p.nxt,.bool x.p.mark,.int .i64 x.p.pops,.ptr 2 0,.O,.O]),none,some (.abs (.find t n x.fn) [])]
abbrev m7(t n:Int)(x:FTS):aD Mc:=[some (.cells [.ptr 1 0,.int .i64 x.code,.bool x.okk,.int .i64 x.val,.bool x.failed,.int .i64 x.tries,.int .i64 x.sh,.int .i64 x.kd,.int .i64 x.ky,.int .i64 x.most,.int .i64 x.at',.bool x.p.now,.int .i64 x.p.code,.bool x.p.okk,.int .i64 x.p.val,.int .i64 x.p.addr,.int .u64 x.p.old,.int .i64 x.p.nxt,.bool x.p.mark,.int .i64 x.p.pops,.O,.ptr 2 0,.O]),none,some (.abs (.clear t n x.cl) [])]
abbrev m8(t n:Int)(x:FTS):aD Mc:=[some (.cells [.ptr 1 0,.int .i64 x.code,.bool x.okk,.int .i64 x.val,.bool x.failed,.int .i64 x.tries,.int .i64 x.sh,.int .i64 x.kd,.int .i64 x.ky,.int .i64 x.most,.int .i64 x.at',.bool x.p.now,.int .i64 x.p.code,.bool x.p.okk,.int .i64 x.p.val,.int .i64 x.p.addr,.int .u64 x.p.old,.int .i64 x.p.nxt,.bool x.p.mark,.int .i64 x.p.pops,.O,.O,.ptr 2 0]),none,some (.abs (.prepare t n x.pr) [1])]
def p7(t n:Int)(x:FTS):aD Mc:=bif ieq x.at' 0 then lB t n x else bif ieq x.at' 1 then m7 t n x else bif ieq x.at' 2 then m8 t n x else uH t n x
theorem BY{t n:Int}{x:FTS}(h:x.at'≠0∧x.at'≠1∧x.at'≠2):p7 t n x=uH t n x:=by
 have ⟨h0,h1,h2⟩:=h
 unfold p7
 rw [bW h0,bW h1,bW h2];rfl
theorem y0{t n:Int}{x:FTS}(h:x.at'=0):p7 t n x=lB t n x:=by
 unfold p7;rw [h];rfl
theorem HG{t n:Int}{x:FTS}(h:x.at'=1):p7 t n x=m7 t n x:=by
 unfold p7;rw [h];rfl
theorem HH{t n:Int}{x:FTS}(h:x.at'=2):p7 t n x=m8 t n x:=by
 unfold p7;rw [h];rfl
abbrev kK(t n:Int)(x:HPS):aD Mc:=[some (.cells [.ptr 1 0,.int .i64 x.u,.int .u64 x.no,.int .i64 x.rounds,.int .i64 x.limit,.int .i64 x.at',.int .u64 x.found,.int .i64 x.sh,.int .i64 x.kd,.int .i64 x.ky,.bool x.p.now,.int .i64 x.p.code,.bool x.p.okk,.int .i64 x.p.val,.int .i64 x.p.addr,.int .u64 x.p.old,.int .i64 x.p.nxt,.bool x.p.mark,.int .i64 x.p.pops,.O,.O,.O,.O,.O]),none]
abbrev nG(t n:Int)(x:HPS):aD Mc:=[some (.cells [.ptr 1 0,.int .i64 x.u,.int .u64 x.no,.int .i64 x.rounds,.int .i64 x.limit,.int .i64 x.at',.int .u64 x.found,.int .i64 x.sh,.int .i64 x.kd,.int .i64 x.ky,.bool x.p.now,.int .i64 x.p.code,.bool x.p.okk,.int .i64 x.p.val,.int .i64 x.p.addr,.int .u64 x.p.old,.int .i64 x.p.nxt,.bool x.p.mark,.int .i64 x.p.pops,.ptr 2 0,.O,.O,.O,.O]),none,some (.abs (.exec t n x.ex) [])]
abbrev nF(t n:Int)(x:HPS):aD Mc:=[some (.cells [.ptr 1 0,.int .i64 x.u,.int .u64 x.no,.int .i64 x.rounds,.int .i64 x.limit,.int .i64 x.at',.int .u64 x.found,.int .i64 x.sh,.int .i64 x.kd,.int .i64 x.ky,.bool x.p.now,.int .i64 x.p.code,.bool x.p.okk,.int .i64 x.p.val,.int .i64 x.p.addr,.int .u64 x.p.old,.int .i64 x.p.nxt,.bool x.p.mark,.int .i64 x.p.pops,.O,.ptr 2 0,.O,.O,.O]),none,some (.abs (.ensure t n x.en) [1])]
abbrev nH(t n:Int)(x:HPS):aD Mc:=[some (.cells [.ptr 1 0,.int .i64 x.u,.int .u64 x.no,.int .i64 x.rounds,.int .i64 x.limit,.int .i64 x.at',.int .u64 x.found,.int .i64 x.sh,.int .i64 x.kd,.int .i64 x.ky,.bool x.p.now,.int .i64 x.p.code,.bool x.p.okk,.int .i64 x.p.val,.int .i64 x.p.addr,.int .u64 x.p.old,.int .i64 x.p.nxt,.bool x.p.mark,.int .i64 x.p.pops,.O,.O,.ptr 2 0,.O,.O]),none,some (.abs (.find t n x.fn) [])]
abbrev nE(t n:Int)(x:HPS):aD Mc:=[some (.cells [.ptr 1 0,.int .i64 x.u,.int .u64 x.no,.int .i64 x.rounds,.int .i64 x.limit,.int .i64 x.at',.int .u64 x.found,.int .i64 x.sh,.int .i64 x.kd,.int .i64 x.ky,.bool x.p.now,.int .i64 x.p.code,.bool x.p.okk,.int .i64 x.p.val,.int .i64 x.p.addr,.int .u64 x.p.old,.int .i64 x.p.nxt,.bool x.p.mark,.int .i64 x.p.pops,.O,.O,.O,.ptr 2 0,.O]),none,some (.abs (.clear t n x.cl) [])]
abbrev nI(t n:Int)(x:HPS):aD Mc:=[some (.cells [.ptr 1 0,.int .i64 x.u,.int .u64 x.no,.int .i64 x.rounds,.int .i64 x.limit,.int .i64 x.at',.int .u64 x.found,.int .i64 x.sh,.int .i64 x.kd,.int .i64 x.ky,.bool x.p.now,.int .i64 x.p.code,.bool x.p.okk,.int .i64 x.p.val,.int .i64 x.p.addr,.int .u64 x.p.old,.int .i64 x.p.nxt,.bool x.p.mark,.int .i64 x.p.pops,.O,.O,.O,.O,.ptr 2 0]),none,some (.abs (.prepare t n x.pr) [1])]
def lD(t n:Int)(x:HPS):aD Mc:=bif ieq x.at' 3 then nG t n x else bif ieq x.at' 4 then nF t n x else bif ieq x.at' 5 then nH t n x else bif ieq x.at' 7 then nE t n x else bif ieq x.at' 8 then nI t n x else kK t n x
theorem jG{t n:Int}{x:HPS}(h:x.at'≠3∧x.at'≠4∧x.at'≠5∧x.at'≠7∧x.at'≠8):lD t n x=kK t n x:=by
 have ⟨h3,h4,h5,h7,h8⟩:=h
 unfold lD
 rw [bW h3,bW h4,bW h5,bW h7,bW h8];rfl
theorem HR{t n:Int}{x:HPS}(h:x.at'=3):lD t n x=nG t n x:=by
 unfold lD;rw [h];rfl
theorem HS{t n:Int}{x:HPS}(h:x.at'=4):lD t n x=nF t n x:=by
 unfold lD;rw [h];rfl
theorem HT{t n:Int}{x:HPS}(h:x.at'=5):lD t n x=nH t n x:=by
 unfold lD;rw [h];rfl
theorem HU{t n:Int}{x:HPS}(h:x.at'=7):lD t n x=nE t n x:=by
 unfold lD;rw [h];rfl
theorem HV{t n:Int}{x:HPS}(h:x.at'=8):lD t n x=nI t n x:=by
 unfold lD;rw [h];rfl
abbrev yQ(t n:Int)(x:DOS):aD Mc:=[some (.cells [.ptr 1 0,.int .i64 x.code,.bool x.okk,.int .i64 x.val,.bool x.slow,.int .i64 x.sh,.int .i64 x.kd,.int .i64 x.ky,.int .i64 x.limit,.int .i64 x.at',.O,.O,.O,.O,.O,.O,.O,.O,.O]),none]
abbrev kY(t n:Int)(x:DOS):aD Mc:=[some (.cells [.ptr 1 0,.int .i64 x.code,.bool x.okk,.int .i64 x.val,.bool x.slow,.int .i64 x.sh,.int .i64 x.kd,.int .i64 x.ky,.int .i64 x.limit,.int .i64 x.at',.ptr 2 0,.O,.O,.O,.O,.O,.O,.O,.O]),none,some (.abs (.head t n x.hd) [])]
abbrev fF(t n:Int)(x:DOS):aD Mc:=[some (.cells [.ptr 1 0,.int .i64 x.code,.bool x.okk,.int .i64 x.val,.bool x.slow,.int .i64 x.sh,.int .i64 x.kd,.int .i64 x.ky,.int .i64 x.limit,.int .i64 x.at',.O,.ptr 2 0,.O,.O,.O,.O,.O,.O,.O]),none,some (.abs (.help t n x.hp) [1])]
abbrev mV(t n:Int)(x:DOS):aD Mc:=[some (.cells [.ptr 1 0,.int .i64 x.code,.bool x.okk,.int .i64 x.val,.bool x.slow,.int .i64 x.sh,.int .i64 x.kd,.int .i64 x.ky,.int .i64 x.limit,.int .i64 x.at',.O,.O,.ptr 2 0,.O,.O,.O,.O,.O,.O]),none,some (.abs (.ensure t n x.en) [1])]
abbrev mX(t n:Int)(x:DOS):aD Mc:=[some (.cells [.ptr 1 0,.int .i64 x.code,.bool x.okk,.int .i64 x.val,.bool x.slow,.int .i64 x.sh,.int .i64 x.kd,.int .i64 x.ky,.int .i64 x.limit,.int .i64 x.at',.O,.O,.O,.ptr 2 0,.O,.O,.O,.O,.O]),none,some (.abs (.fast t n x.ft) [1])]
abbrev mS(t n:Int)(x:DOS):aD Mc:=[some (.cells [.ptr 1 0,.int .i64 x.code,.bool x.okk,.int .i64 x.val,.bool x.slow,.int .i64 x.sh,.int .i64 x.kd,.int .i64 x.ky,.int .i64 x.limit,.int .i64 x.at',.O,.O,.O,.O,.ptr 2 0,.O,.O,.O,.O]),none,some (.abs (.announce t n x.an) [])]
abbrev mT(t n:Int)(x:DOS):aD Mc:=[some (.cells [.ptr 1 0,.int .i64 x.code,.bool x.okk,.int .i64 x.val,.bool x.slow,.int .i64 x.sh,.int .i64 x.kd,.int .i64 x.ky,.int .i64 x.limit,.int .i64 x.at',.O,.O,.O,.O,.O,.ptr 2 0,.O,.O,.O]),none,some (.abs (.answer t n x.aw) [])]
abbrev mW(t n:Int)(x:DOS):aD Mc:=[some (.cells [.ptr 1 0,.int .i64 x.code,.bool x.okk,.int .i64 x.val,.bool x.slow,.int .i64 x.sh,.int .i64 x.kd,.int .i64 x.ky,.int .i64 x.limit,.int .i64 x.at',.O,.O,.O,.O,.O,.O,.ptr 2 0,.O,.O]),none,some (.abs (.find t n x.fn) [])]
abbrev mU(t n:Int)(x:DOS):aD Mc:=[some (.cells [.ptr 1 0,.int .i64 x.code,.bool x.okk,.int .i64 x.val,.bool x.slow,.int .i64 x.sh,.int .i64 x.kd,.int .i64 x.ky,.int .i64 x.limit,.int .i64 x.at',.O,.O,.O,.O,.O,.O,.O,.ptr 2 0,.O]),none,some (.abs (.drop t n x.dr) [])]
abbrev mY(t n:Int)(x:DOS):aD Mc:=[some (.cells [.ptr 1 0,.int .i64 x.code,.bool x.okk,.int .i64 x.val,.bool x.slow,.int .i64 x.sh,.int .i64 x.kd,.int .i64 x.ky,.int .i64 x.limit,.int .i64 x.at',.O,.O,.O,.O,.O,.O,.O,.O,.ptr 2 0]),none,some (.abs (.sweep t n x.sw) [1])]
def eP(t n:Int)(x:DOS):aD Mc:=bif ieq x.at' 0 then kY t n x else bif ieq x.at' 1 then fF t n x else bif ieq x.at' 5 then fF t n x else bif ieq x.at' 2 then mV t n x else bif ieq x.at' 3 then mX t n x else bif ieq x.at' 4 then mS t n x else bif ieq x.at' 6 then mT t n x else bif ieq x.at' 7 then mW t n x else bif ieq x.at' 8 then mU t n x else bif ieq x.at' 9 then mY t n x else yQ t n x
theorem NB{t n:Int}{x:DOS}(h:x.at'≠0∧x.at'≠1∧x.at'≠5∧x.at'≠2∧x.at'≠3∧x.at'≠4∧x.at'≠6∧x.at'≠7∧x.at'≠8∧x.at'≠9):eP t n x=yQ t n x:=by
 have ⟨h0,h1,h5,h2,h3,h4,h6,h7,h8,h9⟩:=h
 unfold eP
 rw [bW h0,bW h1,bW h5,bW h2,bW h3,bW h4,bW h6,bW h7,bW h8,bW h9];rfl
theorem yR{t n:Int}{x:DOS}(h:x.at'=0):eP t n x=kY t n x:=by
 unfold eP;rw [h];rfl
theorem GP{t n:Int}{x:DOS}(h:x.at'=1):eP t n x=fF t n x:=by
 unfold eP;rw [h];rfl
theorem GY{t n:Int}{x:DOS}(h:x.at'=5):eP t n x=fF t n x:=by
 unfold eP;rw [h];rfl
theorem GU{t n:Int}{x:DOS}(h:x.at'=2):eP t n x=mV t n x:=by
 unfold eP;rw [h];rfl
theorem GV{t n:Int}{x:DOS}(h:x.at'=3):eP t n x=mX t n x:=by
 unfold eP;rw [h];rfl
theorem GW{t n:Int}{x:DOS}(h:x.at'=4):eP t n x=mS t n x:=by
 unfold eP;rw [h];rfl
theorem G0{t n:Int}{x:DOS}(h:x.at'=6):eP t n x=mT t n x:=by
 unfold eP;rw [h];rfl
theorem G1{t n:Int}{x:DOS}(h:x.at'=7):eP t n x=mW t n x:=by
 unfold eP;rw [h];rfl
theorem G2{t n:Int}{x:DOS}(h:x.at'=8):eP t n x=mU t n x:=by
 unfold eP;rw [h];rfl
theorem G3{t n:Int}{x:DOS}(h:x.at'=9):eP t n x=mY t n x:=by
 unfold eP;rw [h];rfl
def tbl:Mc→Nat×aD Mc
 | .sweep t n y=>(1,P1 t n y)
 | .ensure t n e=>(1,G7 t n e)
 | .store t n s=>(0,dG t n s)
 | .clear t n x=>(0,XO t n x)
 | .prepare t n x=>(1,PF t n x)
 | .head t n x=>(0,aBH t n x)
 | .drop t n x=>(0,aBs t n x)
 | .announce t n x=>(0,IU t n x)
 | .answer t n x=>(0,QY t n x)
 | .exec t n x=>(0,aBy t n x)
 | .find t n x=>(0,B3 t n x)
 | .fast t n x=>(1,p7 t n x)
 | .help t n x=>(1,lD t n x)
 | .doer t n x=>(1,eP t n x)
def memH(s:MS):aD Ob:=[some (.cells [.int .i64 s.t,.int .i64 s.n,.slice 1 0 s.xs.length 1,.int .i64 s.c,.int .i64 s.k,.int .i64 s.a,.int .u64 s.o,.int .u64 s.w,.bool s.ok]),some (.ints (some .u64) s.xs)]
noncomputable def E0:pJ Ob Tryz.prog where
 I:=obI tbl
 cps:=fun _=>none
 det:=fun _=>none
 meth:=FN Tryz.prog
 cpsOk:=by intro f S h;cases h
 detOk:=by intro f S h;cases h
 methOk:=fun t n f h v w _=>FO h v w
theorem aW{b:Bool}{X Y:Prop}(h1:b=true→X)(h2:b=false→Y):cond b X Y:=D9 h1 h2
def laySizeS:aJ Ob:=fun args h=>match args,h with
 | [.agg [.int .i64 t,.int .i64 n]],[]=>some (.pre ((0≤t∧t≤100000)∧(0≤n∧n≤100000)) (.ret (.int .i64 (2*n+5*t+6)) []))
 | _,_=>none
theorem FH:aJ.ok E0.I Tryz.prog 130 laySizeS:=by
 intro args h o ho K hK
 unfold laySizeS at ho
 split at ho<;>cases ho
 rename_i t n
 obtain⟨hp,hK⟩:=hK
 have hK:K (.int .i64 (2*n+5*t+6)) []:=hK
 refine aC8 (aE (E:=E0) Tryz.checked.mixed (L:=fun _ _=>none) (n:=10) (aN (q:=K (.int .i64 (W (W (W (W (W (W (W (W (W (1+n)+4)+W (n+1)) - 1)+W (2*t))+0)+W (3*t))+0)+1))) []) (by kernel_rfl) ?_))
 simp(disch:=omega) only [W,cT]
 refine cast (congrArg (fun z=>K (AVal.int .i64 z) []) ?_) hK
 omega
def layLifeS:aJ Ob:=fun args h=>match args,h with
 | [.agg [.int .i64 t,.int .i64 n],.int .i64 a],[]=>some (.pre ((0≤t∧t≤100000)∧(0≤n∧n≤100000)∧(-1099511627776≤a∧a≤1099511627776)) (.ret (.int .i64 (n+4+a)) []))
 | _,_=>none
theorem FF:aJ.ok E0.I Tryz.prog 45 layLifeS:=by
 intro args h o ho K hK
 unfold layLifeS at ho
 split at ho<;>cases ho
 rename_i t n a
 obtain⟨hp,hK⟩:=hK
 have hK:K (.int .i64 (n+4+a)) []:=hK
 refine aC8 (aE (E:=E0) Tryz.checked.mixed (L:=fun _ _=>none) (n:=10) (aN (q:=K (.int .i64 (W (W (W (W (1+n)+4)+a) - 1))) []) (by kernel_rfl) ?_))
 simp(disch:=omega) only [W,cT]
 refine cast (congrArg (fun z=>K (AVal.int .i64 z) []) ?_) hK
 omega
def laySlotS:aJ Ob:=fun args h=>match args,h with
 | [.agg [.int .i64 t,.int .i64 n],.int .i64 a,.int .i64 b],[]=>some (.pre ((0≤t∧t≤100000)∧(0≤n∧n≤100000)∧(-1099511627776≤a∧a≤1099511627776)∧(-1099511627776≤b∧b≤1099511627776)) (.ret (.int .i64 (2*n+5+2*a+b)) []))
 | _,_=>none
theorem FI:aJ.ok E0.I Tryz.prog 152 laySlotS:=by
 intro args h o ho K hK
 unfold laySlotS at ho
 split at ho<;>cases ho
 rename_i t n a b
 obtain⟨hp,hK⟩:=hK
 have hK:K (.int .i64 (2*n+5+2*a+b)) []:=hK
 refine aC8 (aE (E:=E0) Tryz.checked.mixed (L:=fun _ _=>none) (n:=10) (aN (q:=K (.int .i64 (W (W (W (W (W (W (1+n)+4)+W (n+1)) - 1)+W (2*a))+b))) []) (by kernel_rfl) ?_))
 simp(disch:=omega) only [W,cT]
 refine cast (congrArg (fun z=>K (AVal.int .i64 z) []) ?_) hK
 omega
def layDescS:aJ Ob:=fun args h=>match args,h with
 | [.agg [.int .i64 t,.int .i64 n],.int .i64 a],[]=>some (.pre ((0≤t∧t≤100000)∧(0≤n∧n≤100000)∧(-1099511627776≤a∧a≤1099511627776)) (.ret (.int .i64 (2*n+5+2*t+3*a+2)) []))
 | _,_=>none
theorem FE:aJ.ok E0.I Tryz.prog 103 layDescS:=by
 intro args h o ho K hK
 unfold layDescS at ho
 split at ho<;>cases ho
 rename_i t n a
 obtain⟨hp,hK⟩:=hK
 have hK:K (.int .i64 (2*n+5+2*t+3*a+2)) []:=hK
 refine aC8 (aE (E:=E0) Tryz.checked.mixed (L:=fun _ _=>none) (n:=10) (aN (q:=K (.int .i64 (W (W (W (W (W (W (W (W (1+n)+4)+W (n+1)) - 1)+W (2*t))+0)+W (3*a))+2))) []) (by kernel_rfl) ?_))
 simp(disch:=omega) only [W,cT]
 refine cast (congrArg (fun z=>K (AVal.int .i64 z) []) ?_) hK
 omega
def layTaskS:aJ Ob:=fun args h=>match args,h with
 | [.agg [.int .i64 t,.int .i64 n],.int .i64 a],[]=>some (.pre ((0≤t∧t≤100000)∧(0≤n∧n≤100000)∧(-1099511627776≤a∧a≤1099511627776)) (.ret (.int .i64 (2*n+5+2*t+3*a+1)) []))
 | _,_=>none
theorem FJ:aJ.ok E0.I Tryz.prog 112 layTaskS:=by
 intro args h o ho K hK
 unfold layTaskS at ho
 split at ho<;>cases ho
 rename_i t n a
 obtain⟨hp,hK⟩:=hK
 have hK:K (.int .i64 (2*n+5+2*t+3*a+1)) []:=hK
 refine aC8 (aE (E:=E0) Tryz.checked.mixed (L:=fun _ _=>none) (n:=10) (aN (q:=K (.int .i64 (W (W (W (W (W (W (W (W (1+n)+4)+W (n+1)) - 1)+W (2*t))+0)+W (3*a))+1))) []) (by kernel_rfl) ?_))
 simp(disch:=omega) only [W,cT]
 refine cast (congrArg (fun z=>K (AVal.int .i64 z) []) ?_) hK
 omega
def layTicketS:aJ Ob:=fun args h=>match args,h with
 | [.agg [.int .i64 t,.int .i64 n],.int .i64 a],[]=>some (.pre ((0≤t∧t≤100000)∧(0≤n∧n≤100000)∧(-1099511627776≤a∧a≤1099511627776)) (.ret (.int .i64 (2*n+5+2*t+3*a)) []))
 | _,_=>none
theorem zE:aJ.ok E0.I Tryz.prog 110 layTicketS:=by
 intro args h o ho K hK
 unfold layTicketS at ho
 split at ho<;>cases ho
 rename_i t n a
 obtain⟨hp,hK⟩:=hK
 have hK:K (.int .i64 (2*n+5+2*t+3*a)) []:=hK
 refine aC8 (aE (E:=E0) Tryz.checked.mixed (L:=fun _ _=>none) (n:=10) (aN (q:=K (.int .i64 (W (W (W (W (W (W (W (W (1+n)+4)+W (n+1)) - 1)+W (2*t))+0)+W (3*a))+0))) []) (by kernel_rfl) ?_))
 simp(disch:=omega) only [W,cT]
 refine cast (congrArg (fun z=>K (AVal.int .i64 z) []) ?_) hK
 omega
def layCounterS:aJ Ob:=fun args h=>match args,h with
 | [.agg [.int .i64 t,.int .i64 n]],[]=>some (.pre ((0≤t∧t≤100000)∧(0≤n∧n≤100000)) (.ret (.int .i64 (2*n+5+2*t+3*t)) []))
 | _,_=>none
theorem v7:aJ.ok E0.I Tryz.prog 61 layCounterS:=by
 intro args h o ho K hK
 unfold layCounterS at ho
 split at ho<;>cases ho
 rename_i t n
 obtain⟨hp,hK⟩:=hK
 have hK:K (.int .i64 (2*n+5+2*t+3*t)) []:=hK
 refine aC8 (aE (E:=E0) Tryz.checked.mixed (L:=fun _ _=>none) (n:=10) (aN (q:=K (.int .i64 (W (W (W (W (W (W (W (W (1+n)+4)+W (n+1)) - 1)+W (2*t))+0)+W (3*t))+0))) []) (by kernel_rfl) ?_))
 simp(disch:=omega) only [W,cT]
 refine cast (congrArg (fun z=>K (AVal.int .i64 z) []) ?_) hK
 omega
def slotsS:aJ Ob:=fun args h=>match args,h with
 | [.agg [.int .i64 t,.int .i64 n]],[]=>some (.pre ((0≤t∧t≤100000)∧(0≤n∧n≤100000)) (.ret (.int .i64 (2*t)) []))
 | _,_=>none
theorem PU:aJ.ok E0.I Tryz.prog 181 slotsS:=by
 intro args h o ho K hK
 unfold slotsS at ho
 split at ho<;>cases ho
 rename_i t n
 obtain⟨hp,hK⟩:=hK
 have hK:K (.int .i64 (2*t)) []:=hK
 refine aC8 (aE (E:=E0) Tryz.checked.mixed (L:=fun _ _=>none) (n:=10) (aN (q:=K (.int .i64 (W (2*t))) []) (by kernel_rfl) ?_))
 simp(disch:=omega) only [W,cT]
 refine cast (congrArg (fun z=>K (AVal.int .i64 z) []) ?_) hK
 omega
def iI(t n:Int):Bool:=ile 1 t&&ile t 8&&ile 1 n&&ile n 200
theorem nR{t n:Int} :iI t n=true↔1≤t∧t≤8∧1≤n∧n≤200:=by
 unfold iI;simp only [cG,Bool.and_eq_true,dT'];omega
def bX(n a:Int):Bool:=ile 1 a&&ile a n
theorem FR{n a:Int} :bX n a=true↔1≤a∧a≤n:=by
 unfold bX;simp only [cG,Bool.and_eq_true,dT']
def layRightS:aJ Ob:=fun args h=>match args,h with
 | [.agg [.int .i64 t,.int .i64 n]],[]=>some (.pre (True) (.ret (.bool (iI t n)) []))
 | _,_=>none
theorem CP:aJ.ok E0.I Tryz.prog 129 layRightS:=by
 intro args h o ho K hK
 unfold layRightS at ho
 split at ho<;>cases ho
 rename_i t n
 obtain⟨hp,hK⟩:=hK
 have hK:K (.bool (iI t n)) []:=hK
 refine aC8 (aE (E:=E0) Tryz.checked.mixed (L:=fun _ _=>none) (n:=10) (aN (q:=bif ile 1 t then bif ile t 8 then bif ile 1 n then K (.bool (ile n 200)) []else K (.bool false) []else K (.bool false) []else K (.bool false) []) (by kernel_rfl) ?_))
 unfold iI at hK
 refine aW (fun e1=>aW (fun e2=>aW (fun e3=>?_) (fun e3=>?_)) (fun e2=>?_)) (fun e1=>?_)
 all_goals (simp only [*,Bool.true_and,Bool.false_and,Bool.and_false]at hK;exact hK)
def layNodeS:aJ Ob:=fun args h=>match args,h with
 | [.agg [.int .i64 t,.int .i64 n],.int .i64 a],[]=>some (.pre (True) (.ret (.bool (bX n a)) []))
 | _,_=>none
theorem FG:aJ.ok E0.I Tryz.prog 123 layNodeS:=by
 intro args h o ho K hK
 unfold layNodeS at ho
 split at ho<;>cases ho
 rename_i t n a
 obtain⟨hp,hK⟩:=hK
 have hK:K (.bool (bX n a)) []:=hK
 refine aC8 (aE (E:=E0) Tryz.checked.mixed (L:=fun _ _=>none) (n:=10) (aN (q:=bif ile 1 a then K (.bool (ile a n)) []else K (.bool false) []) (by kernel_rfl) ?_))
 unfold bX at hK
 refine aW (fun e1=>?_) (fun e1=>?_)
 all_goals (simp only [*,Bool.true_and,Bool.false_and,Bool.and_false]at hK;exact hK)
noncomputable def E1:=(((((((((E0.addS 130 laySizeS FH).addS 45 layLifeS FF).addS 152 laySlotS FI).addS 103 layDescS FE).addS 112 layTaskS FJ).addS 110 layTicketS zE).addS 61 layCounterS v7).addS 181 slotsS PU).addS 129 layRightS CP).addS 123 layNodeS FG
def aB(xs:List Int)(a:Int):Int:=if 0≤a∧a<xs.length then xs.getD a.toNat 0 else 0
theorem H3{xs:List Int}{a:Int}(h:0≤a∧a<xs.length):aB xs a=xs.getD a.toNat 0:=if_pos h
theorem hZ{xs:List Int}{a:Int}(h: ¬(0≤a∧a<xs.length)):aB xs a=0:=if_neg h
def bM(xs:List Int)(a:Int):Bool:=ile 0 a&&ilt a (xs.length:Int)
theorem lE{xs:List Int}{a:Int} :bM xs a=true↔0≤a∧a<xs.length:=by
 unfold bM;simp only [cG,bU,Bool.and_eq_true,dT']
def aCA(xs:List Int)(a x:Int):List Int:=xs.set a.toNat x
def MS.did(s:MS)(k a w:Int)(ok:Bool)(xs:List Int):MS:= {s with xs:=xs,c:=s.c+1,k:=k,a:=a,o:=aB s.xs a,w:=w,ok:=ok}
def MS.load(s:MS)(a:Int):MS:=s.did 1 a (aB s.xs a) (bM s.xs a) s.xs
def MS.store(s:MS)(a x:Int):MS:=bif bM s.xs a then s.did 2 a x true (aCA s.xs a x)else s.did 2 a 0 false s.xs
def pB(h:aD Ob):Option (Nat×MS):=match h with
 | [some (.cells [.int .i64 t,.int .i64 n,.slice 1 0 len 1,.int .i64 c,.int .i64 k,.int .i64 a,.int .u64 o,.int .u64 w,.bool ok]),some (.ints (some .u64) xs)]=>some (len,⟨t,n,xs,c,k,a,o,w,ok⟩)
 | _=>none
theorem lI{h:aD Ob}{l:Nat}{s:MS}(e:pB h=some (l,s))(hl:l=s.xs.length):h=memH s:=by
 unfold pB at e
 split at e
 ·simp only [sI',pI']at e
  obtain⟨rfl,rfl⟩:=e
  simp only at hl;subst hl;rfl
 ·cases e
theorem uV(x:Nat):0+x*1=x:=by omega
def peekS:aJ Ob:=fun args h=>match args,pB h with
 | [.ptr 0 0,.int .i64 a],some (l,s)=>some (.pre (l=s.xs.length∧True) (.ret (.int .u64 (aB s.xs a)) (memH (s))))
 | _,_=>none
theorem UF:aJ.ok E1.I Tryz.prog 60 peekS:=by
 intro args h o ho K hK
 unfold peekS at ho
 split at ho<;>cases ho
 rename_i a l s hm
 obtain⟨⟨hl,hp⟩,hK⟩:=hK
 have hh:=lI hm hl
 subst hh
 have hK:K (.int .u64 (aB s.xs a)) (memH (s)):=hK
 refine aC8 (aE (E:=E1) Tryz.checked.mixed (L:=fun _ _=>none) (n:=10) (aN (q:=bif ilt a 0 then K (.int .u64 0) [some (.cells [.int .i64 s.1,.int .i64 s.2,.slice 1 0 (List.length s.3) 1,.int .i64 s.4,.int .i64 s.5,.int .i64 s.6,.int .u64 s.7,.int .u64 s.8,.bool s.9]),some (.ints (some .u64) s.3)]else bif ile (↑(List.length s.3):Int) a then K (.int .u64 0) [some (.cells [.int .i64 s.1,.int .i64 s.2,.slice 1 0 (List.length s.3) 1,.int .i64 s.4,.int .i64 s.5,.int .i64 s.6,.int .u64 s.7,.int .u64 s.8,.bool s.9]),some (.ints (some .u64) s.3)]else((0:Int)≤a∧a<(↑(List.length s.3):Int))∧0+Int.toNat a*(1:Nat)<List.length s.3∧K (.int .u64 (List.getD s.3 (0+Int.toNat a*1) 0)) [some (.cells [.int .i64 s.1,.int .i64 s.2,.slice 1 0 (List.length s.3) 1,.int .i64 s.4,.int .i64 s.5,.int .i64 s.6,.int .u64 s.7,.int .u64 s.8,.bool s.9]),some (.ints (some .u64) s.3)]) (by kernel_rfl) ?_))
 refine aW (fun e1=>?_) (fun e1=>aW (fun e2=>?_) (fun e2=>?_))
 ·rw [bU,dT']at e1
  rw [hZ (by omega)]at hK;exact hK
 ·rw [cG,dT']at e2
  rw [hZ (by omega)]at hK;exact hK
 ·rw [bU,dF']at e1
  rw [cG,dF']at e2
  refine⟨by omega,by omega,?_⟩
  rw [H3 (by omega)]at hK
  rw [uV];exact hK
noncomputable def E2:=(((E1.addS 60 peekS UF)))
def aL(xs:List Int)(a x:Int):List Int:=if 0≤a∧a<xs.length then xs.set a.toNat x else xs
theorem b8(xs:List Int)(a x:Int):(aL xs a x).length =xs.length:=by unfold aL;split<;>simp
theorem tN{xs:List Int}{a x:Int}(h:0≤a∧a<xs.length):aL xs a x=xs.set a.toNat x:=if_pos h
theorem nO{xs:List Int}{a x:Int}(h: ¬(0≤a∧a<xs.length)):aL xs a x=xs:=if_neg h
theorem fQ{xs:List Int}{a:Int}(h: ¬(0≤a∧a<xs.length)):bM xs a=false:=by
 cases e:bM xs a with
 | false=>rfl
 | true=>exact(h (lE.1 e)).elim
theorem PR{xs:List Int}{a:Int}(h:0≤a∧a<xs.length):xs.set a.toNat (aB xs a)=xs:=by
 rw [H3 h]
 apply List.ext_getElem?
 intro i
 rw [List.getElem?_set]
 by_cases hi:a.toNat=i
 ·subst hi
  have:a.toNat<xs.length:=by omega
  simp [this]
 ·simp [hi]
def MS.loadd(s:MS)(a:Int):MS:=s.did 1 a (aB s.xs a) (bM s.xs a) s.xs
def MS.stored(s:MS)(a x:Int):MS:=s.did 2 a (bif bM s.xs a then x else 0) (bM s.xs a) (aL s.xs a x)
def aR(xs:List Int)(a x:Int):Bool:=bM xs a&&ieq (aB xs a) x
def MS.cased(s:MS)(a x y:Int):MS:=s.did 3 a (bif bM s.xs a then y else 0) (aR s.xs a x) (bif aR s.xs a x then aL s.xs a y else s.xs)
def MS.added(s:MS)(a x:Int):MS:=s.did 4 a (bif bM s.xs a then IntKind.wrap .u64 (aB s.xs a+x)else 0) (bM s.xs a) (aL s.xs a (IntKind.wrap .u64 (aB s.xs a+x)))
theorem qK(s:MS)(k a w:Int)(ok:Bool)(xs:List Int)(h:xs.length=s.xs.length):memH (s.did k a w ok xs)=[some (.cells [.int .i64 s.t,.int .i64 s.n,.slice 1 0 s.xs.length 1,.int .i64 (s.c+1),.int .i64 k,.int .i64 a,.int .u64 (aB s.xs a),.int .u64 w,.bool ok]),some (.ints (some .u64) xs)]:=by
 unfold memH MS.did
 simp only [h]
def loadS:aJ Ob:=fun args h=>match args,pB h with
 | [.ptr 0 0,.int .i64 a],some (l,s)=>some (.pre (l=s.xs.length∧(0≤s.c∧s.c≤4611686018427387904)) (.ret (.int .u64 (aB s.xs a)) (memH (s.loadd a))))
 | _,_=>none
theorem UA:aJ.ok E2.I Tryz.prog 93 loadS:=by
 intro args h o ho K hK
 unfold loadS at ho
 split at ho<;>cases ho
 rename_i a l s hm
 obtain⟨⟨hl,hp⟩,hK⟩:=hK
 have hh:=lI hm hl
 subst hh
 have hK:K (.int .u64 (aB s.xs a)) (memH (s.loadd a)):=hK
 refine aC8 (aE (E:=E2) Tryz.checked.mixed (L:=fun _ _=>none) (n:=10) (aN (q:=(lE' s.3∧True)∧bif ilt a 0 then K (.int .u64 (aB s.3 a)) [some (.cells [.int .i64 s.1,.int .i64 s.2,.slice 1 0 (List.length s.3) 1,.int .i64 (W (s.4+1)),.int .i64 1,.int .i64 a,.int .u64 (aB s.3 a),.int .u64 (aB s.3 a),.bool false]),some (.ints (some .u64) s.3)]else bif ile (↑(List.length s.3):Int) a then K (.int .u64 (aB s.3 a)) [some (.cells [.int .i64 s.1,.int .i64 s.2,.slice 1 0 (List.length s.3) 1,.int .i64 (W (s.4+1)),.int .i64 1,.int .i64 a,.int .u64 (aB s.3 a),.int .u64 (aB s.3 a),.bool false]),some (.ints (some .u64) s.3)]else((0:Int)≤a∧a<(↑(List.length s.3):Int))∧0+Int.toNat a*(1:Nat)<List.length s.3∧K (.int .u64 (aB s.3 a)) [some (.cells [.int .i64 s.1,.int .i64 s.2,.slice 1 0 (List.length s.3) 1,.int .i64 (W (s.4+1)),.int .i64 1,.int .i64 a,.int .u64 (aB s.3 a),.int .u64 (aB s.3 a),.bool true]),some (.ints (some .u64) (List.set s.3 (0+Int.toNat a*1) (aB s.3 a)))]) (by kernel_rfl) ?_))
 refine⟨⟨rfl,trivial⟩,?_⟩
 have hc:IntKind.wrap .i64 (s.c+1)=s.c+1:=cT (by omega)
 simp only [W,WU,hc,uV]
 unfold MS.loadd at hK
 rw [qK _ _ _ _ _ _ rfl]at hK
 refine aW (fun e1=>?_) (fun e1=>aW (fun e2=>?_) (fun e2=>?_))
 ·rw [bU,dT']at e1
  rw [fQ (by omega)]at hK;exact hK
 ·rw [cG,dT']at e2
  rw [fQ (by omega)]at hK;exact hK
 ·rw [bU,dF']at e1
  rw [cG,dF']at e2
  refine⟨by omega,by omega,?_⟩
  rw [lE.2 (by omega)]at hK
  rw [PR (by omega)];exact hK
def storeS:aJ Ob:=fun args h=>match args,pB h with
 | [.ptr 0 0,.int .i64 a,.int .u64 x],some (l,s)=>some (.pre (l=s.xs.length∧(0≤s.c∧s.c≤4611686018427387904)) (.ret (.tup []) (memH (s.stored a x))))
 | _,_=>none
theorem PW:aJ.ok E2.I Tryz.prog 44 storeS:=by
 intro args h o ho K hK
 unfold storeS at ho
 split at ho<;>cases ho
 rename_i a x l s hm
 obtain⟨⟨hl,hp⟩,hK⟩:=hK
 have hh:=lI hm hl
 subst hh
 have hK:K (.tup []) (memH (s.stored a x)):=hK
 refine aC8 (aE (E:=E2) Tryz.checked.mixed (L:=fun _ _=>none) (n:=10) (aN (q:=(lE' s.3∧True)∧bif ilt a 0 then K (.tup []) [some (.cells [.int .i64 s.1,.int .i64 s.2,.slice 1 0 (List.length s.3) 1,.int .i64 (W (s.4+1)),.int .i64 2,.int .i64 a,.int .u64 (aB s.3 a),.int .u64 (aB s.3 a),.bool false]),some (.ints (some .u64) s.3)]else bif ile (↑(List.length s.3):Int) a then K (.tup []) [some (.cells [.int .i64 s.1,.int .i64 s.2,.slice 1 0 (List.length s.3) 1,.int .i64 (W (s.4+1)),.int .i64 2,.int .i64 a,.int .u64 (aB s.3 a),.int .u64 (aB s.3 a),.bool false]),some (.ints (some .u64) s.3)]else((0:Int)≤a∧a<(↑(List.length s.3):Int))∧0+Int.toNat a*(1:Nat)<List.length s.3∧K (.tup []) [some (.cells [.int .i64 s.1,.int .i64 s.2,.slice 1 0 (List.length s.3) 1,.int .i64 (W (s.4+1)),.int .i64 2,.int .i64 a,.int .u64 (aB s.3 a),.int .u64 x,.bool true]),some (.ints (some .u64) (List.set s.3 (0+Int.toNat a*1) x))]) (by kernel_rfl) ?_))
 refine⟨⟨rfl,trivial⟩,?_⟩
 have hc:IntKind.wrap .i64 (s.c+1)=s.c+1:=cT (by omega)
 simp only [W,WU,hc,uV]
 unfold MS.stored at hK
 rw [qK _ _ _ _ _ _ (b8 _ _ _)]at hK
 refine aW (fun e1=>?_) (fun e1=>aW (fun e2=>?_) (fun e2=>?_))
 ·rw [bU,dT']at e1
  rw [fQ (by omega),nO (by omega)]at hK
  rw [hZ (by omega)]at hK⊢;exact hK
 ·rw [cG,dT']at e2
  rw [fQ (by omega),nO (by omega)]at hK
  rw [hZ (by omega)]at hK⊢;exact hK
 ·rw [bU,dF']at e1
  rw [cG,dF']at e2
  refine⟨by omega,by omega,?_⟩
  rw [lE.2 (by omega),tN (by omega)]at hK
  exact hK
def casS:aJ Ob:=fun args h=>match args,pB h with
 | [.ptr 0 0,.int .i64 a,.int .u64 x,.int .u64 y],some (l,s)=>some (.pre (l=s.xs.length∧(0≤s.c∧s.c≤4611686018427387904)) (.ret (.bool (aR s.xs a x)) (memH (s.cased a x y))))
 | _,_=>none
theorem XJ:aJ.ok E2.I Tryz.prog 99 casS:=by
 intro args h o ho K hK
 unfold casS at ho
 split at ho<;>cases ho
 rename_i a x y l s hm
 obtain⟨⟨hl,hp⟩,hK⟩:=hK
 have hh:=lI hm hl
 subst hh
 have hK:K (.bool (aR s.xs a x)) (memH (s.cased a x y)):=hK
 refine aC8 (aE (E:=E2) Tryz.checked.mixed (L:=fun _ _=>none) (n:=10) (aN (q:=(lE' s.3∧True)∧bif ilt a 0 then K (.bool false) [some (.cells [.int .i64 s.1,.int .i64 s.2,.slice 1 0 (List.length s.3) 1,.int .i64 (W (s.4+1)),.int .i64 3,.int .i64 a,.int .u64 (aB s.3 a),.int .u64 (aB s.3 a),.bool false]),some (.ints (some .u64) s.3)]else bif ile (↑(List.length s.3):Int) a then K (.bool false) [some (.cells [.int .i64 s.1,.int .i64 s.2,.slice 1 0 (List.length s.3) 1,.int .i64 (W (s.4+1)),.int .i64 3,.int .i64 a,.int .u64 (aB s.3 a),.int .u64 (aB s.3 a),.bool false]),some (.ints (some .u64) s.3)]else bif ieq (aB s.3 a) x then((0:Int)≤a∧a<(↑(List.length s.3):Int))∧0+Int.toNat a*(1:Nat)<List.length s.3∧K (.bool (ieq (aB s.3 a) x)) [some (.cells [.int .i64 s.1,.int .i64 s.2,.slice 1 0 (List.length s.3) 1,.int .i64 (W (s.4+1)),.int .i64 3,.int .i64 a,.int .u64 (aB s.3 a),.int .u64 y,.bool (ieq (aB s.3 a) x)]),some (.ints (some .u64) (List.set s.3 (0+Int.toNat a*1) y))]else K (.bool (ieq (aB s.3 a) x)) [some (.cells [.int .i64 s.1,.int .i64 s.2,.slice 1 0 (List.length s.3) 1,.int .i64 (W (s.4+1)),.int .i64 3,.int .i64 a,.int .u64 (aB s.3 a),.int .u64 y,.bool (ieq (aB s.3 a) x)]),some (.ints (some .u64) s.3)]) (by kernel_rfl) ?_))
 refine⟨⟨rfl,trivial⟩,?_⟩
 have hc:IntKind.wrap .i64 (s.c+1)=s.c+1:=cT (by omega)
 simp only [W,WU,hc,uV]
 unfold MS.cased at hK
 rw [qK _ _ _ _ _ _ (by cases aR s.xs a x<;>first | exact b8 _ _ _ | rfl)]at hK
 unfold aR at hK
 refine aW (fun e1=>?_) (fun e1=>aW (fun e2=>?_) (fun e2=>?_))
 ·rw [bU,dT']at e1
  rw [fQ (by omega)]at hK
  rw [hZ (by omega)]at hK⊢;exact hK
 ·rw [cG,dT']at e2
  rw [fQ (by omega)]at hK
  rw [hZ (by omega)]at hK⊢;exact hK
 ·rw [bU,dF']at e1
  rw [cG,dF']at e2
  rw [lE.2 (by omega),tN (by omega)]at hK
  simp only [Bool.true_and,cond_true]at hK
  refine aW (fun e3=>⟨by omega,by omega,?_⟩) (fun e3=>?_)
  ·rw [e3]at hK⊢;exact hK
  ·rw [e3]at hK⊢;exact hK
def addS:aJ Ob:=fun args h=>match args,pB h with
 | [.ptr 0 0,.int .i64 a,.int .u64 x],some (l,s)=>some (.pre (l=s.xs.length∧(0≤s.c∧s.c≤4611686018427387904)) (.ret (.int .u64 (aB s.xs a)) (memH (s.added a x))))
 | _,_=>none
theorem WS:aJ.ok E2.I Tryz.prog 215 addS:=by
 intro args h o ho K hK
 unfold addS at ho
 split at ho<;>cases ho
 rename_i a x l s hm
 obtain⟨⟨hl,hp⟩,hK⟩:=hK
 have hh:=lI hm hl
 subst hh
 have hK:K (.int .u64 (aB s.xs a)) (memH (s.added a x)):=hK
 refine aC8 (aE (E:=E2) Tryz.checked.mixed (L:=fun _ _=>none) (n:=10) (aN (q:=(lE' s.3∧True)∧bif ilt a 0 then K (.int .u64 (aB s.3 a)) [some (.cells [.int .i64 s.1,.int .i64 s.2,.slice 1 0 (List.length s.3) 1,.int .i64 (W (s.4+1)),.int .i64 4,.int .i64 a,.int .u64 (aB s.3 a),.int .u64 (aB s.3 a),.bool false]),some (.ints (some .u64) s.3)]else bif ile (↑(List.length s.3):Int) a then K (.int .u64 (aB s.3 a)) [some (.cells [.int .i64 s.1,.int .i64 s.2,.slice 1 0 (List.length s.3) 1,.int .i64 (W (s.4+1)),.int .i64 4,.int .i64 a,.int .u64 (aB s.3 a),.int .u64 (aB s.3 a),.bool false]),some (.ints (some .u64) s.3)]else((0:Int)≤a∧a<(↑(List.length s.3):Int))∧0+Int.toNat a*(1:Nat)<List.length s.3∧K (.int .u64 (aB s.3 a)) [some (.cells [.int .i64 s.1,.int .i64 s.2,.slice 1 0 (List.length s.3) 1,.int .i64 (W (s.4+1)),.int .i64 4,.int .i64 a,.int .u64 (aB s.3 a),.int .u64 (WU (aB s.3 a+x)),.bool true]),some (.ints (some .u64) (List.set s.3 (0+Int.toNat a*1) (WU (aB s.3 a+x))))]) (by kernel_rfl) ?_))
 refine⟨⟨rfl,trivial⟩,?_⟩
 have hc:IntKind.wrap .i64 (s.c+1)=s.c+1:=cT (by omega)
 simp only [W,WU,hc,uV]
 unfold MS.added at hK
 rw [qK _ _ _ _ _ _ (b8 _ _ _)]at hK
 refine aW (fun e1=>?_) (fun e1=>aW (fun e2=>?_) (fun e2=>?_))
 ·rw [bU,dT']at e1
  rw [fQ (by omega),nO (by omega)]at hK
  rw [hZ (by omega)]at hK⊢;exact hK
 ·rw [cG,dT']at e2
  rw [fQ (by omega),nO (by omega)]at hK
  rw [hZ (by omega)]at hK⊢;exact hK
 ·rw [bU,dF']at e1
  rw [cG,dF']at e2
  refine⟨by omega,by omega,?_⟩
  rw [lE.2 (by omega),tN (by omega)]at hK
  exact hK
noncomputable def E3:=(((E2.addS 93 loadS UA).addS 44 storeS PW).addS 99 casS XJ).addS 215 addS WS
def aO(t n me:Int):Int:=if t<1 then 1 else 1+Int.tdiv (me*n) t
theorem U7{x t:Int}(h:0≤x)(ht:1≤t):0≤Int.tdiv x t∧Int.tdiv x t≤x:=by
 rw [Int.tdiv_eq_ediv_of_nonneg h]
 exact⟨Int.ediv_nonneg h (by omega),Int.ediv_le_self t h⟩
def first0S:aJ Ob:=fun args h=>match args,h with
 | [.ptr 0 0],some (.cells (.int .i64 t:: .int .i64 n:: .int .i64 me::tl))::rest=>some (.pre ((0≤me∧me≤100000)∧(0≤n∧n≤100000)) (.ret (.int .i64 (aO t n me)) (some (.cells (.int .i64 t:: .int .i64 n:: .int .i64 me::tl))::rest)))
 | _,_=>none
theorem JT:aJ.ok E3.I Tryz.prog 144 first0S:=by
 intro args h o ho K hK
 unfold first0S at ho
 split at ho<;>cases ho
 rename_i t n me tl rest
 obtain⟨hp,hK⟩:=hK
 have hK:K (.int .i64 (aO t n me)) (some (.cells (.int .i64 t:: .int .i64 n:: .int .i64 me::tl))::rest):=hK
 refine(aE (E:=E3) Tryz.checked.mixed (L:=fun _ _=>none) (n:=10) (aN (q:=bif ilt t 1 then K (.int .i64 1) (some (.cells (.int .i64 t:: .int .i64 n:: .int .i64 me::tl))::rest)else t≠(0:Int)∧K (.int .i64 (W (1+W (Int.tdiv (W (me*n)) t)))) (some (.cells (.int .i64 t:: .int .i64 n:: .int .i64 me::tl))::rest)) (by kernel_rfl) ?_))
 obtain⟨⟨h1,h2⟩,h3,h4⟩:=hp
 have hm:0≤me*n∧me*n≤100000*100000:=⟨Int.mul_nonneg h1 h3,Int.mul_le_mul h2 h4 h3 (by omega)⟩
 refine aW (fun e=>?_) (fun e=>?_)
 ·rw [bU,dT']at e
  unfold aO at hK;rw [if_pos e]at hK;exact hK
 ·rw [bU,dF']at e
  refine⟨by omega,?_⟩
  unfold aO at hK;rw [if_neg e]at hK
  have:=U7 (x:=me*n) (t:=t) hm.1 (by omega)
  simp(disch:=omega) only [W,cT]
  exact hK
def EP:bL Ob:=fun args h=>match args,h with
 | [.ptr 0 0],some (.cells (.int .i64 t:: .int .i64 n:: .int .i64 me::tl))::rest=>some (((0≤me∧me≤100000)∧(0≤n∧n≤100000)),.int .i64 (aO t n me))
 | _,_=>none
theorem NT:aJ.ok E3.I Tryz.prog 144 EP.spec:=by
 intro args h o ho
 unfold bL.spec at ho
 split at ho
 case h_2=>cases ho
 rename_i p v hv
 unfold EP at hv
 split at hv
 case h_2=>cases hv
 simp only [sI',pI']at hv
 obtain⟨rfl,rfl⟩:=hv
 exact JT _ _ o ho
def lifeNewS:aJ Ob:=fun args h=>match args,h with
 | [.agg [.int .i64 t,.int .i64 n],.int .i64 a],[]=>some (.pre (True) (.ret (.ptr 0 0) ([some (.cells [.int .i64 t,.int .i64 n,.int .i64 0,.int .i64 (bif bX n a then a else 1),.int .i64 n,.int .u64 0,.bool false])])))
 | _,_=>none
theorem FK:aJ.ok E3.I Tryz.prog 143 lifeNewS:=by
 intro args h o ho K hK
 unfold lifeNewS at ho
 split at ho<;>cases ho
 rename_i t n a
 obtain⟨hp,hK⟩:=hK
 have hK:K (.ptr 0 0) ([some (.cells [.int .i64 t,.int .i64 n,.int .i64 0,.int .i64 (bif bX n a then a else 1),.int .i64 n,.int .u64 0,.bool false])]):=hK
 refine aC8 (aE (E:=E3) Tryz.checked.mixed (L:=fun _ _=>none) (n:=10) (aN (q:=True∧bif !bX n a then K (.ptr 0 0) [some (.cells [.int .i64 t,.int .i64 n,.int .i64 0,.int .i64 1,.int .i64 n,.int .u64 0,.bool false])]else K (.ptr 0 0) [some (.cells [.int .i64 t,.int .i64 n,.int .i64 0,.int .i64 a,.int .i64 n,.int .u64 0,.bool false])]) (by kernel_rfl) ?_))
 refine⟨trivial,aW (fun e=>?_) (fun e=>?_)⟩
 ·have e':bX n a=false:=by simpa using e
  rw [e']at hK;exact hK
 ·have e':bX n a=true:=by simpa using e
  rw [e']at hK;exact hK
noncomputable def E4a:=E3.addS 143 lifeNewS FK
noncomputable def E4:=E4a.addR 144 EP NT
noncomputable def LL:FuncId→Nat→Option (rA Ob):=fun _ _=>some (.rounds 12)
noncomputable def E5:=E4
abbrev iI'(l:List Int):Option (aK Ob):=some (.ints (some .i64) l)
abbrev cE'(l:List AVal):Option (aK Ob):=some (.cells l)
theorem cM'{E:pJ Ob Tryz.prog}{f:FuncId}{args:List AVal}{h:aD Ob}{K:AVal→aD Ob→Prop}{q:Prop}(e:HF E LL 10 f args h K=q)(hq:q):aC E.I Tryz.prog f args h K:=aE (E:=E) Tryz.checked.mixed (L:=LL) (n:=10) (aN e hq)
abbrev cT':=aC (A:=Ob) (obI tbl) Tryz.prog
abbrev sT':=aJ.ok (A:=Ob) (obI tbl) Tryz.prog
def cloneS:aJ Ob:=fun args h=>match args,h with
 | [.slice 0 0 n 1],[some (.ints (some .i64) xs)]=>some (.pre (n=xs.length∧n≤4294967296) (.ret (.slice 1 0 xs.length 1) [some (.ints (some .i64) xs),some (.ints (some .i64) xs)]))
 | _,_=>none
theorem MR:aJ.ok E5.I Tryz.prog 148 cloneS:=by
 intro args h o ho K hK
 unfold cloneS at ho
 split at ho<;>cases ho
 rename_i n xs
 obtain⟨⟨rfl,hp⟩,hK⟩:=hK
 have hK:K (.slice 1 0 xs.length 1) [some (.ints (some .i64) xs),some (.ints (some .i64) xs)]:=hK
 refine aC8 (aDy (cs:=[(.slot 0,.ints (some .i64))]) (cM' (E:=E5) (q:= ∀(b:Bool),(b=true→List.length xs=0)→bif b then K (.slice 1 0 0 1) [some (.ints (some .i64) xs),some (.ints (some .i64) [])]else(0+List.length xs≤List.length xs∧List.length xs≤(4294967296:Nat))∧K (.slice 1 0 (List.length xs) 1) [some (.ints (some .i64) xs),some (.ints (some .i64) (List.take (List.length xs) (List.drop 0 xs)))]) (by kernel_rfl) ?_))
 intro b hb
 refine aW (fun e=>?_) (fun e=>⟨⟨by omega,by omega⟩,?_⟩)
 ·have h0:=List.length_eq_zero_iff.1 (hb e)
  subst h0;exact hK
 ·simpa using hK
def gH(xs ys:List Int):Bool:=decide (xs=ys)
theorem vE{xs ys:List Int} :gH xs ys=true↔xs=ys:=by unfold gH;exact decide_eq_true_iff
structure okI (xs ys:List Int) (i:Nat):Prop where
 h1:i≤xs.length
 h2:xs.length=ys.length
 h3:xs.take i=ys.take i
def HI(xs ys:List Int):Hint Ob:= {X:=Nat,st:=fun i=>([.slice 0 0 xs.length 1,.slice 1 0 ys.length 1,.O,.O,.O,.int .i64 (i:Int)]++List.replicate 20 .O,[some (.ints (some .i64) xs),some (.ints (some .i64) ys)]),ok:=okI xs ys,mu:=fun i=>xs.length - i,keep:=[0,1,5] }
def intsS0:aJ Ob:=fun args h=>match args,h with
 | [.slice 0 0 n 1,.slice 1 0 m 1],[some (.ints (some .i64) xs),some (.ints (some .i64) ys)]=>some (.pre ((n=xs.length∧m=ys.length)∧n≤4294967296) (.ret (.bool (gH xs ys)) [some (.ints (some .i64) xs),some (.ints (some .i64) ys)]))
 | _,_=>none
theorem OH:aJ.ok E5.I Tryz.prog 33 intsS0:=by
 intro args h o ho K hK
 unfold intsS0 at ho
 split at ho<;>cases ho
 rename_i n m xs ys
 obtain⟨⟨⟨rfl,rfl⟩,hp⟩,hK⟩:=hK
 have hK:K (.bool (gH xs ys)) [some (.ints (some .i64) xs),some (.ints (some .i64) ys)]:=hK
 refine(aE (E:=E5) Tryz.checked.mixed (L:=fun _ _=>some (.states (HI xs ys))) (n:=10) (aN (q:=bif !ieq (↑(List.length xs):Int) (↑(List.length ys):Int)then K (.bool false) [some (.ints (some .i64) xs),some (.ints (some .i64) ys)]else dT (HI xs ys) (Hint.ok (HI xs ys)) [.slice 0 0 (List.length xs) 1,.slice 1 0 (List.length ys) 1,.O,.O,.O,.int .i64 0,.O,.O,.O,.O,.O,.O,.O,.O,.O,.O,.O,.O,.O,.O,.O,.O,.O,.O,.O,.O] [some (.ints (some .i64) xs),some (.ints (some .i64) ys)]∧ ∀(x:Nat),okI xs ys x→bif ilt (↑x:Int) (↑(List.length xs):Int)then((0:Int)≤(↑x:Int)∧(↑x:Int)<(↑(List.length xs):Int))∧0+Int.toNat (↑x:Int)*(1:Nat)<List.length xs∧((0:Int)≤(↑x:Int)∧(↑x:Int)<(↑(List.length ys):Int))∧0+Int.toNat (↑x:Int)*(1:Nat)<List.length ys∧bif !ieq (List.getD xs (0+Int.toNat (↑x:Int)*1) 0) (List.getD ys (0+Int.toNat (↑x:Int)*1) 0)then K (.bool false) [some (.ints (some .i64) xs),some (.ints (some .i64) ys)]else dT (HI xs ys) (fun x'=>Hint.ok (HI xs ys) x'∧Hint.mu (HI xs ys) x'<Hint.mu (HI xs ys) x) [.slice 0 0 (List.length xs) 1,.slice 1 0 (List.length ys) 1,.O,.O,.O,.int .i64 (W ((↑x:Int)+1)),.O,.O,.O,.O,.O,.O,.O,.O,.O,.O,.O,.O,.O,.O,.O,.O,.O,.O,.O,.O] [some (.ints (some .i64) xs),some (.ints (some .i64) ys)]else K (.bool true) [some (.ints (some .i64) xs),some (.ints (some .i64) ys)]) (by kernel_rfl) ?_))
 have hS:gH xs ys=decide (xs=ys):=rfl
 refine aW (fun e=>?_) (fun e=>⟨bF (H:=HI xs ys) (0:Nat) rfl ⟨Nat.zero_le _,?_,rfl⟩,?_⟩)
 ·rw [bI]at e
  have:xs≠ys:=by rintro rfl;simp at e
  rw [hS,decide_eq_false this]at hK;exact hK
 ·rw [bI]at e;simp at e;omega
 ·rintro i ⟨h1,h2,h3⟩
  refine aW (fun e1=>?_) (fun e1=>?_)
  ·rw [bU,dT']at e1
   have hi:i<xs.length:=by omega
   have e2:0+(i:Int).toNat *1=i:=by omega
   rw [e2]
   refine⟨by omega,hi,by omega,by omega,aW (fun e3=>?_) (fun e3=>?_)⟩
   ·rw [bI]at e3
    have:xs≠ys:=by rintro rfl;simp at e3
    rw [hS,decide_eq_false this]at hK;exact hK
   ·rw [bI]at e3
    have e3:xs.getD i 0=ys.getD i 0:=by simpa using e3
    have e4:IntKind.wrap .i64 ((i:Int)+1)=((i+1:Nat):Int):=by rw [cT (by omega)];rfl
    refine bF (H:=HI xs ys) (i+1:Nat) (by simp only [W,e4]<;>rfl) ⟨⟨hi,h2,?_⟩,by show xs.length - (i+1)<xs.length - i;omega⟩
    have hj:i<ys.length:=by omega
    rw [gD',gE' hi,gD',gE' hj]at e3
    rw [List.take_succ_eq_append_getElem hi,List.take_succ_eq_append_getElem hj,h3]
    have e5:xs[i]=ys[i]:=by simpa using e3
    rw [e5]
  ·rw [bU,dF']at e1
   have:xs=ys:=by
    rw [List.take_of_length_le (by omega),List.take_of_length_le (by omega)]at h3;exact h3
   rw [hS,decide_eq_true this]at hK;exact hK
def OI:bL Ob:=fun args h=>match args,h with
 | [.slice 0 0 n 1,.slice 1 0 m 1],[some (.ints (some .i64) xs),some (.ints (some .i64) ys)]=>some ((n=xs.length∧m=ys.length)∧n≤4294967296,.bool (gH xs ys))
 | _,_=>none
theorem T3:aJ.ok E5.I Tryz.prog 33 OI.spec:=by
 intro args h o ho
 unfold bL.spec at ho
 split at ho
 case h_2=>cases ho
 rename_i p v hv
 unfold OI at hv
 split at hv
 case h_2=>cases hv
 simp only [sI',pI']at hv
 obtain⟨rfl,rfl⟩:=hv
 exact OH _ _ o ho
noncomputable def E6:=(E5.addS 148 cloneS MR).addR 33 OI T3
def storeNewS:aJ Ob:=fun args h=>match args,h with
 | [.agg [.int .i64 t,.int .i64 n],.int .i64 me],[]=>some (.ret (.ptr 0 0) [some (.cells [.int .i64 t,.int .i64 n,.int .i64 me,.int .i64 0,.raw (.slice none 0 0)])])
 | _,_=>none
theorem DE:aJ.ok E6.I Tryz.prog 19 storeNewS:=by
 intro args h o ho K hK
 unfold storeNewS at ho
 split at ho<;>cases ho
 rename_i t n me
 have hK:K (.ptr 0 0) [some (.cells [.int .i64 t,.int .i64 n,.int .i64 me,.int .i64 0,.raw (.slice none 0 0)])]:=hK
 exact aC8 (cM' (E:=E6) (by kernel_rfl) hK)
def cF(sp:Int)(xs:List Int):List Int:=bif ieq sp 0 then xs else sp::xs
def fullS0:aJ Ob:=fun args h=>match args,h with
 | [.ptr 0 0],some (.cells [.int .i64 t,.int .i64 n,.int .i64 me,.int .i64 sp,.slice 1 0 k 1])::rest=>some (.pre (0≤t∧t≤100000) (.ret (.bool (ile (4*t) (k:Int))) (some (.cells [.int .i64 t,.int .i64 n,.int .i64 me,.int .i64 sp,.slice 1 0 k 1])::rest)))
 | _,_=>none
theorem N2:aJ.ok E6.I Tryz.prog 194 fullS0:=by
 intro args h o ho K hK
 unfold fullS0 at ho
 split at ho<;>cases ho
 rename_i t n me sp k rest
 obtain⟨hp,hK⟩:=hK
 have hK:K (.bool (ile (4*t) (k:Int))) (some (.cells [.int .i64 t,.int .i64 n,.int .i64 me,.int .i64 sp,.slice 1 0 k 1])::rest):=hK
 refine(cM' (E:=E6) (q:=K (.bool (ile (W (4*t)) (↑k:Int))) (some (.cells [.int .i64 t,.int .i64 n,.int .i64 me,.int .i64 sp,.slice 1 0 k 1])::rest)) (by kernel_rfl) ?_)
 simp(disch:=omega) only [W,cT]
 exact hK
def N3:bL Ob:=fun args h=>match args,h with
 | [.ptr 0 0],some (.cells [.int .i64 t,.int .i64 n,.int .i64 me,.int .i64 sp,.slice 1 0 k 1])::rest=>some (0≤t∧t≤100000,.bool (ile (4*t) (k:Int)))
 | _,_=>none
theorem TE:aJ.ok E6.I Tryz.prog 194 N3.spec:=by
 intro args h o ho
 unfold bL.spec at ho
 split at ho
 case h_2=>cases ho
 rename_i p v hv
 unfold N3 at hv
 split at hv
 case h_2=>cases hv
 simp only [sI',pI']at hv
 obtain⟨rfl,rfl⟩:=hv
 exact N2 _ _ o ho
noncomputable def E7:=((E6.addS 19 storeNewS DE)).addR 194 N3 TE
def eI(s:Int):List Int:=bif ieq s 1||ieq s 2 then [1,2,3]else bif ieq s 3||ieq s 4 then [4,5]else []
def kindsS:aJ Ob:=fun args h=>match args,h with
 | [.int .i64 s],[]=>some (.ret (.slice 0 0 (eI s).length 1) [some (.ints (some .i64) (eI s))])
 | _,_=>none
theorem OL:aJ.ok E7.I Tryz.prog 184 kindsS:=by
 intro args h o ho K hK
 unfold kindsS at ho
 split at ho<;>cases ho
 rename_i s
 have hK:K (.slice 0 0 (eI s).length 1) [some (.ints (some .i64) (eI s))]:=hK
 refine aC8 (aDy (cs:=[(.slot 0,.ints (some .i64))]) (cM' (E:=E7) (q:=bif ieq s 1 then K (.slice 0 0 3 1) [some (.ints (some .i64) [1,2,3])]else bif ieq s 2 then K (.slice 0 0 3 1) [some (.ints (some .i64) [1,2,3])]else bif ieq s 3 then K (.slice 0 0 2 1) [some (.ints (some .i64) [4,5])]else bif ieq s 4 then K (.slice 0 0 2 1) [some (.ints (some .i64) [4,5])]else K (.slice 0 0 0 1) [some (.ints (some .i64) [])]) (by kernel_rfl) ?_))
 unfold eI at hK
 cases e1:ieq s 1<;>cases e2:ieq s 2<;>cases e3:ieq s 3<;>cases e4:ieq s 4<;>simp only [e1,e2,e3,e4,Bool.or_true,Bool.or_false,Bool.true_or,Bool.false_or,cond_true,cond_false]at hK⊢ <;>exact hK
noncomputable def E8:=E7.addS 184 kindsS OL
theorem bN(a:Int):ieq a a=true:=by rw [bI];simp
def hasB(xs:List Int)(n:Int):Bool:=decide (n∈xs)
theorem J8{xs:List Int}{n:Int} :hasB xs n=true↔n∈xs:=by unfold hasB;exact decide_eq_true_iff
structure okC (xs:List Int) (n:Int) (i:Nat):Prop where
 h1:i≤xs.length
 h2:n∉xs.take i
def HC(xs:List Int)(n:Int):Hint Ob:= {X:=Nat,st:=fun i=>([.slice 0 0 xs.length 1,.int .i64 n,.O,.O,.O,.O,.O,.int .i64 (xs.length:Int),.int .i64 (i:Int)]++List.replicate 10 .O,[some (.ints (some .i64) xs)]),ok:=okC xs n,mu:=fun i=>xs.length - i,keep:=[0,1,7,8] }
def hasS0:aJ Ob:=fun args h=>match args,h with
 | [.slice 0 0 k 1,.int .i64 n],[some (.ints (some .i64) xs)]=>some (.pre (k=xs.length∧k≤4294967296) (.ret (.bool (hasB xs n)) [some (.ints (some .i64) xs)]))
 | _,_=>none
theorem TF:aJ.ok E8.I Tryz.prog 124 hasS0:=by
 intro args h o ho K hK
 unfold hasS0 at ho
 split at ho<;>cases ho
 rename_i k n xs
 obtain⟨⟨rfl,hp⟩,hK⟩:=hK
 have hK:K (.bool (hasB xs n)) [some (.ints (some .i64) xs)]:=hK
 refine(aE (E:=E8) Tryz.checked.mixed (L:=fun _ _=>some (.states (HC xs n))) (n:=10) (aN (q:=dT (HC xs n) (Hint.ok (HC xs n)) [.slice 0 0 (List.length xs) 1,.int .i64 n,.O,.O,.O,.O,.O,.int .i64 (↑(List.length xs):Int),.int .i64 0,.O,.O,.O,.O,.O,.O,.O,.O,.O,.O] [some (.ints (some .i64) xs)]∧ ∀(x:Nat),okC xs n x→bif ilt (↑x:Int) (↑(List.length xs):Int)then((0:Int)≤(↑x:Int)∧(↑x:Int)<(↑(List.length xs):Int))∧0+Int.toNat (↑x:Int)*(1:Nat)<List.length xs∧bif ieq n (List.getD xs (0+Int.toNat (↑x:Int)*1) 0)then K (.bool (ile 0 (↑x:Int))) [some (.ints (some .i64) xs)]else dT (HC xs n) (fun x'=>Hint.ok (HC xs n) x'∧Hint.mu (HC xs n) x'<Hint.mu (HC xs n) x) [.slice 0 0 (List.length xs) 1,.int .i64 n,.O,.O,.O,.O,.O,.int .i64 (↑(List.length xs):Int),.int .i64 (W ((↑x:Int)+1)),.O,.O,.O,.O,.O,.O,.O,.O,.O,.O] [some (.ints (some .i64) xs)]else K (.bool false) [some (.ints (some .i64) xs)]) (by kernel_rfl) ?_))
 have hS:hasB xs n=decide (n∈xs):=rfl
 refine⟨bF (H:=HC xs n) (0:Nat) rfl ⟨Nat.zero_le _,by simp⟩,?_⟩
 rintro i ⟨h1,h2⟩
 refine aW (fun e1=>?_) (fun e1=>?_)
 ·rw [bU,dT']at e1
  have hi:i<xs.length:=by omega
  have e2:0+(i:Int).toNat *1=i:=by omega
  rw [e2]
  have e4:IntKind.wrap .i64 ((i:Int)+1)=((i+1:Nat):Int):=by rw [cT (by omega)];rfl
  have hg:xs.getD i 0=xs[i]:=by rw [gD',gE' hi];rfl
  refine⟨by omega,hi,aW (fun e3=>?_) (fun e3=>?_)⟩
  ·rw [bI,hg]at e3
   have e3:n=xs[i]:=by simpa using e3
   have hm:n∈xs:=by rw [e3];exact List.getElem_mem hi
   have h0:ile 0 (i:Int)=true:=by rw [cG,dT'];omega
   rw [hS,decide_eq_true hm]at hK
   first | (rw [h0];exact hK) | exact hK
  ·rw [bI,hg]at e3
   have e3: ¬n=xs[i]:=by simpa using e3
   refine bF (H:=HC xs n) (i+1:Nat) (by simp only [W,e4]<;>rfl) ⟨⟨hi,?_⟩,by show xs.length - (i+1)<xs.length - i;omega⟩
   rw [List.take_succ_eq_append_getElem hi]
   intro hm
   rcases List.mem_append.1 hm with h | h
   ·exact h2 h
   ·exact e3 (by simpa using h)
 ·rw [bU,dF']at e1
  rw [List.take_of_length_le (by omega)]at h2
  rw [hS,decide_eq_false h2]at hK
  exact hK
def TH:bL Ob:=fun args h=>match args,h with
 | [.slice 0 0 k 1,.int .i64 n],[some (.ints (some .i64) xs)]=>some (k=xs.length∧k≤4294967296,.bool (hasB xs n))
 | _,_=>none
theorem N5:aJ.ok E8.I Tryz.prog 124 TH.spec:=by
 intro args h o ho
 unfold bL.spec at ho
 split at ho
 case h_2=>cases ho
 rename_i p v hv
 unfold TH at hv
 split at hv
 case h_2=>cases hv
 simp only [sI',pI']at hv
 obtain⟨rfl,rfl⟩:=hv
 exact TF _ _ o ho
noncomputable def E9:=E8.addR 124 TH N5
theorem FD(s:Int):(eI s).length ≤3:=by
 unfold eI
 cases (ieq s 1||ieq s 2)<;>cases (ieq s 3||ieq s 4)<;>simp
def aY(s k y:Int):Bool:=hasB (eI s) k&&(ile 0 y&&ile y (bif ieq k 5 then 0 else 999))
def F2:bL Ob:=fun args h=>match args,h with
 | [.int .i64 s,.agg [.int .i64 k,.int .i64 y]],[]=>some (True,.bool (aY s k y))
 | _,_=>none
theorem PL:aJ.ok E9.I Tryz.prog 126 F2.spec:=by
 intro args h o ho K hK
 unfold bL.spec at ho
 split at ho
 case h_2=>cases ho
 rename_i p v hv
 unfold F2 at hv
 split at hv
 case h_2=>cases hv
 rename_i s k y
 simp only [sI',pI']at hv
 obtain⟨rfl,rfl⟩:=hv
 simp only [sI']at ho;subst ho
 obtain⟨_,hK⟩:=hK
 have hK:K (.bool (aY s k y)) []:=hK
 refine aC8 (cM' (E:=E9) (q:=bif ieq k 5 then(lE' (eI s)∧List.length (eI s)≤(4294967296:Nat))∧bif hasB (eI s) k then bif ile 0 y then K (.bool (ile y 0)) []else K (.bool false) []else K (.bool false) []else(lE' (eI s)∧List.length (eI s)≤(4294967296:Nat))∧bif hasB (eI s) k then bif ile 0 y then K (.bool (ile y 999)) []else K (.bool false) []else K (.bool false) []) (by kernel_rfl) ?_)
 have hl:=FD s
 unfold aY at hK
 refine aW (fun e1=>⟨⟨rfl,by omega⟩,aW (fun e2=>aW (fun e3=>?_) (fun e3=>?_)) (fun e2=>?_)⟩) (fun e1=>⟨⟨rfl,by omega⟩,aW (fun e2=>aW (fun e3=>?_) (fun e3=>?_)) (fun e2=>?_)⟩)<;>
  (simp only [e1,e2,cond_true,cond_false,Bool.true_and,Bool.false_and]at hK<;>first | (simp only [e3,Bool.true_and,Bool.false_and]at hK;exact hK) | exact hK)
noncomputable def E10:=E9.addR 126 F2 PL
def aA(x a w:Int):Int:=x / 2^a.toNat%2^w.toNat
def bitI(b:Bool):Int:=bif b then 1 else 0
def aG(n w:Int):Bool:=ile 0 n&&ilt n (2^w.toNat)
theorem toNat_ofInt(n:Nat)(x:Int):((BitVec.ofInt n x).toNat :Int)=x%2^n:=by
 rw [BitVec.toNat_ofInt]
 have h:(0:Int)<(2^n:Nat):=by exact_mod_cast Nat.two_pow_pos n
 have h2:0≤x%((2^n:Nat):Int):=Int.emod_nonneg _ (by omega)
 rw [Int.toNat_of_nonneg h2]
 push_cast
 rfl
theorem iW(w:Nat):(0:Int)<2^w:=by
 have:((2^w:Nat):Int)=2^w:=by push_cast;rfl
 have h:0<2^w:=Nat.two_pow_pos w
 omega
theorem P8{w n:Nat}(h:w≤n):(2:Int)^w≤2^n:=by
 have a:((2^w:Nat):Int)=2^w:=by push_cast;rfl
 have b:((2^n:Nat):Int)=2^n:=by push_cast;rfl
 have h:2^w≤2^n:=Nat.pow_le_pow_right (by omega) h
 omega
theorem VC{w n:Nat}(h:w≤n):(2:Int)^w∣2^n:=by
 have a:((2^w:Nat):Int)=2^w:=by push_cast;rfl
 have b:((2^n:Nat):Int)=2^n:=by push_cast;rfl
 rw [←a,←b]
 exact Int.natCast_dvd_natCast.2 (Nat.pow_dvd_pow 2 h)
theorem i9{n w:Nat}(x:Int)(h:w<n):((BitVec.ofInt n x&&&BitVec.ofInt n (2^w - 1)).toNat :Int)=x%2^w:=by
 have hp:=iW w
 have h3:(2:Int)^w≤2^n:=P8 (by omega)
 have e1:(BitVec.ofInt n (2^w - 1)).toNat =2^w - 1:=by
  have:((BitVec.ofInt n (2^w - 1)).toNat :Int)=((2^w - 1:Nat):Int):=by
   rw [toNat_ofInt,Int.emod_eq_of_lt (by omega) (by omega)]
   have a:((2^w:Nat):Int)=2^w:=by push_cast;rfl
   have:1≤2^w:=Nat.one_le_two_pow
   omega
  exact_mod_cast this
 rw [BitVec.toNat_and,e1,Nat.and_two_pow_sub_one_eq_mod]
 push_cast
 rw [toNat_ofInt]
 exact Int.emod_emod_of_dvd _ (VC (by omega))
theorem uX{n a:Nat}{x y:Int}(hx:0≤x∧x<2^a)(hy:0≤y)(h:y*2^a+x<2^n):
 ((BitVec.ofInt n x|||BitVec.ofInt n (y*2^a)).toNat :Int)=x+y*2^a:=by
 have hp:=iW a
 have hya:0≤y*2^a:=Int.mul_nonneg hy (by omega)
 obtain⟨u,rfl⟩:=Int.eq_ofNat_of_zero_le hx.1
 obtain⟨v,rfl⟩:=Int.eq_ofNat_of_zero_le hy
 have e1:(BitVec.ofInt n (u:Int)).toNat =u:=by
  have:((BitVec.ofInt n (u:Int)).toNat :Int)=(u:Int):=by
   rw [toNat_ofInt,Int.emod_eq_of_lt (by omega) (by omega)]
  exact_mod_cast this
 have e2:(BitVec.ofInt n ((v:Int)*2^a)).toNat =v*2^a:=by
  have:((BitVec.ofInt n ((v:Int)*2^a)).toNat :Int)=((v*2^a:Nat):Int):=by
   rw [toNat_ofInt,Int.emod_eq_of_lt (by omega) (by omega)];push_cast;rfl
  exact_mod_cast this
 have hu:u<2^a:=by
  have b:((2^a:Nat):Int)=2^a:=by push_cast;rfl
  omega
 rw [BitVec.toNat_or,e1,e2]
 have:u|||v*2^a=u+v*2^a:=by
  have:=Nat.shiftLeft_add_eq_or_of_lt hu v
  rw [Nat.shiftLeft_eq]at this
  rw [Nat.or_comm,←this];omega
 rw [this];push_cast;rfl
theorem i8{x:Int}(h:0≤x∧x≤18446744073709551615):IntKind.wrap IntKind.u64 x=x:=IntWalk.u64_in x h
theorem AB{w n:Nat}(h:w≤n){b:Int}(e:b=2^n):(2:Int)^w≤b:=by rw [e];exact P8 h
def XP:bL Ob:=fun args h=>match args,h with
 | [.int .u64 x,.int .i64 a,.int .i64 w],[]=>some ((0≤a∧a≤63)∧(0≤w∧w≤62),.int .i64 (aA x a w))
 | _,_=>none
theorem XQ:aJ.ok E10.I Tryz.prog 182 XP.spec:=by
 intro args h o ho K hK
 unfold bL.spec at ho
 split at ho
 case h_2=>cases ho
 rename_i p v hv
 unfold XP at hv
 split at hv
 case h_2=>cases hv
 rename_i x a w
 simp only [sI',pI']at hv
 obtain⟨rfl,rfl⟩:=hv
 simp only [sI']at ho;subst ho
 obtain⟨⟨ha,hw⟩,hK⟩:=hK
 have hK:K (.int .i64 (aA x a w)) []:=hK
 refine aC8 (aE (E:=E10) Tryz.checked.mixed (L:=fun _ _=>none) (n:=10) (aN (q:=(0:Int)≤a∧(0:Int)≤w∧K (.int .i64 (W (WU (↑(BitVec.toNat (BitVec.ofInt (IntKind.bits .u64) (Int.fdiv x (2^min (Int.toNat a) (IntKind.bits .u64)))&&&BitVec.ofInt (IntKind.bits .u64) (WU (WU (1*2^min (Int.toNat w) (IntKind.bits .u64)) - 1)))):Int)))) []) (by kernel_rfl) ?_))
 refine⟨by omega,by omega,?_⟩
 refine cast (congrArg (fun z=>K (AVal.int .i64 z) []) ?_) hK
 show aA x a w=_
 have hb:IntKind.bits .u64 =64:=rfl
 rw [hb]
 have h1:min a.toNat 64=a.toNat:=by omega
 have h2:min w.toNat 64=w.toNat:=by omega
 have h3:(2:Int)^w.toNat≤4611686018427387904:=AB (n:=62) (by omega) (by decide)
 have h4:=iW w.toNat
 have h5:=iW a.toNat
 rw [h1,h2,Int.fdiv_eq_ediv_of_nonneg _ (by omega)]
 simp only [WU,W,Int.one_mul]
 rw [i8 (x:=2^w.toNat) (by omega),i8 (x:=2^w.toNat - 1) (by omega),i9 _ (by omega)]
 have h6:=Int.emod_nonneg (x / 2^a.toNat) (b:=2^w.toNat) (by omega)
 have h7:=Int.emod_lt_of_pos (x / 2^a.toNat) (b:=2^w.toNat) (by omega)
 rw [i8 (by omega),cT (by omega)]
 rfl
def XH:bL Ob:=fun args h=>match args,h with
 | [.bool b],[]=>some (True,.int .i64 (bitI b))
 | _,_=>none
theorem XI:aJ.ok E10.I Tryz.prog 224 XH.spec:=by
 intro args h o ho K hK
 unfold bL.spec at ho
 split at ho
 case h_2=>cases ho
 rename_i p v hv
 unfold XH at hv
 split at hv
 case h_2=>cases hv
 rename_i b
 simp only [sI',pI']at hv
 obtain⟨rfl,rfl⟩:=hv
 simp only [sI']at ho;subst ho
 obtain⟨_,hK⟩:=hK
 have hK:K (.int .i64 (bitI b)) []:=hK
 refine aC8 (aE (E:=E10) Tryz.checked.mixed (L:=fun _ _=>none) (n:=10) (aN (q:=bif b then K (.int .i64 1) []else K (.int .i64 0) []) (by kernel_rfl) ?_))
 cases b<;>exact hK
def YZ:bL Ob:=fun args h=>match args,h with
 | [.agg [.int .i64 n,.int .i64 w]],[]=>some (0≤w∧w≤62,.bool (aG n w))
 | _,_=>none
theorem Y0:aJ.ok E10.I Tryz.prog 206 YZ.spec:=by
 intro args h o ho K hK
 unfold bL.spec at ho
 split at ho
 case h_2=>cases ho
 rename_i p v hv
 unfold YZ at hv
 split at hv
 case h_2=>cases hv
 rename_i n w
 simp only [sI',pI']at hv
 obtain⟨rfl,rfl⟩:=hv
 simp only [sI']at ho;subst ho
 obtain⟨hw,hK⟩:=hK
 have hK:K (.bool (aG n w)) []:=hK
 refine aC8 (aE (E:=E10) Tryz.checked.mixed (L:=fun _ _=>none) (n:=10) (aN (q:=bif ile 0 n then(0:Int)≤w∧K (.bool (ilt n (W (1*2^min (Int.toNat w) (IntKind.bits .i64))))) []else K (.bool false) []) (by kernel_rfl) ?_))
 unfold aG at hK
 have hb:IntKind.bits .i64 =64:=rfl
 have h2:min w.toNat 64=w.toNat:=by omega
 have h3:(2:Int)^w.toNat≤4611686018427387904:=AB (n:=62) (by omega) (by decide)
 have h4:=iW w.toNat
 refine aW (fun e=>⟨by omega,?_⟩) (fun e=>?_)
 ·rw [e]at hK
  rw [hb,h2,W,Int.one_mul,cT (by omega)]
  exact hK
 ·rw [e]at hK;exact hK
def aQ(v:Int):Int:=(v+1)%262144
def OO:bL Ob:=fun args h=>match args,h with
 | [.agg [.int .i64 k,.int .i64 x,.bool m,.int .i64 c,.int .i64 v],.int .i64 y],[]=>some (0≤v∧v≤1000000,.agg [.int .i64 k,.int .i64 y,.bool m,.int .i64 c,.int .i64 (aQ v)])
 | _,_=>none
theorem T8:aJ.ok E10.I Tryz.prog 166 OO.spec:=by
 intro args h o ho K hK
 unfold bL.spec at ho
 split at ho
 case h_2=>cases ho
 rename_i p v hv
 unfold OO at hv
 split at hv
 case h_2=>cases hv
 rename_i k x m c v y
 simp only [sI',pI']at hv
 obtain⟨rfl,rfl⟩:=hv
 simp only [sI']at ho;subst ho
 obtain⟨hw,hK⟩:=hK
 have hK:K (.agg [.int .i64 k,.int .i64 y,.bool m,.int .i64 c,.int .i64 (aQ v)]) []:=hK
 refine aC8 (aE (E:=E10) Tryz.checked.mixed (L:=fun _ _=>none) (n:=10) (aN (q:=K (.agg [.int .i64 k,.int .i64 y,.bool m,.int .i64 c,.int .i64 (W (↑(BitVec.toNat (BitVec.ofInt (IntKind.bits .i64) (W (v+1))&&&BitVec.ofInt (IntKind.bits .i64) 262143)):Int))]) []) (by kernel_rfl) ?_))
 refine cast (congrArg (fun z=>K (.agg [.int .i64 k,.int .i64 y,.bool m,.int .i64 c,.int .i64 z]) []) ?_) hK
 show aQ v=_
 have hb:IntKind.bits .i64 =64:=rfl
 simp only [W]
 rw [hb,cT (x:=v+1) (by omega)]
 have:=i9 (n:=64) (w:=18) (v+1) (by omega)
 have e:(2:Int)^18 - 1=262143:=by decide
 rw [e]at this
 rw [this]
 have e2:(2:Int)^18=262144:=by decide
 rw [e2,cT (by omega)]
 rfl
noncomputable def E11:=((((E10.addR 182 XP XQ).addR 224 XH XI).addR 206 YZ Y0).addR 166 OO T8)
def ZG:bL Ob:=fun args h=>match args,h with
 | [.int .u64 x],[]=>some (True,.agg [.int .i64 (aA x 0 10),.int .i64 (aA x 10 9),.bool (ieq (aA x 19 1) 1),.int .i64 (aA x 20 5),.int .i64 (aA x 25 18)])
 | _,_=>none
set_option maxRecDepth 100000 in
theorem ZH:aJ.ok E11.I Tryz.prog 122 ZG.spec:=by
 intro args h o ho K hK
 unfold bL.spec at ho
 split at ho
 case h_2=>cases ho
 rename_i p v hv
 unfold ZG at hv
 split at hv
 case h_2=>cases hv
 rename_i x
 simp only [sI',pI']at hv
 obtain⟨rfl,rfl⟩:=hv
 simp only [sI']at ho;subst ho
 obtain⟨_,hK⟩:=hK
 refine aC8 (cM' (E:=E11) (q:=((0:Int)≤(0:Int)∧(0:Int)<(↑5:Int))∧((0:Int)≤(0:Int)∧(0:Int)<(↑1:Int))∧1+(1:Nat)≤(4294967296:Nat)∧((0:Int)≤W (0+1)∧W (0+1)<(↑5:Int))∧((0:Int)≤W (0+1)∧W (0+1)<(↑(1+1):Int))∧1+1+(1:Nat)≤(4294967296:Nat)∧((0:Int)≤W (W (0+1)+1)∧W (W (0+1)+1)<(↑5:Int))∧((0:Int)≤W (W (0+1)+1)∧W (W (0+1)+1)<(↑(1+1+1):Int))∧1+1+1+(1:Nat)≤(4294967296:Nat)∧((0:Int)≤W (W (W (0+1)+1)+1)∧W (W (W (0+1)+1)+1)<(↑5:Int))∧((0:Int)≤W (W (W (0+1)+1)+1)∧W (W (W (0+1)+1)+1)<(↑(1+1+1+1):Int))∧1+1+1+1+(1:Nat)≤(4294967296:Nat)∧((0:Int)≤W (W (W (W (0+1)+1)+1)+1)∧W (W (W (W (0+1)+1)+1)+1)<(↑5:Int))∧((0:Int)≤W (W (W (W (0+1)+1)+1)+1)∧W (W (W (W (0+1)+1)+1)+1)<(↑(1+1+1+1+1):Int))∧1+1+1+1+1+(1:Nat)≤(4294967296:Nat)∧((0:Int)≤(0:Int)∧(0:Int)<(↑(1+1+1+1+1+1):Int))∧(((0:Int)≤(0:Int)∧(0:Int)≤(63:Int))∧(0:Int)≤(10:Int)∧(10:Int)≤(62:Int))∧((0:Int)≤(1:Int)∧(1:Int)<(↑(1+1+1+1+1+1):Int))∧(((0:Int)≤W (0+10)∧W (0+10)≤(63:Int))∧(0:Int)≤(9:Int)∧(9:Int)≤(62:Int))∧((0:Int)≤(2:Int)∧(2:Int)<(↑(1+1+1+1+1+1):Int))∧(((0:Int)≤W (W (0+10)+9)∧W (W (0+10)+9)≤(63:Int))∧(0:Int)≤(1:Int)∧(1:Int)≤(62:Int))∧((0:Int)≤(3:Int)∧(3:Int)<(↑(1+1+1+1+1+1):Int))∧(((0:Int)≤W (W (W (0+10)+9)+1)∧W (W (W (0+10)+9)+1)≤(63:Int))∧(0:Int)≤(5:Int)∧(5:Int)≤(62:Int))∧((0:Int)≤(4:Int)∧(4:Int)<(↑(1+1+1+1+1+1):Int))∧(((0:Int)≤W (W (W (W (0+10)+9)+1)+5)∧W (W (W (W (0+10)+9)+1)+5)≤(63:Int))∧(0:Int)≤(18:Int)∧(18:Int)≤(62:Int))∧K (.agg [.int .i64 (aA x 0 10),.int .i64 (aA x (W (0+10)) 9),.bool (ieq (aA x (W (W (0+10)+9)) 1) 1),.int .i64 (aA x (W (W (W (0+10)+9)+1)) 5),.int .i64 (aA x (W (W (W (W (0+10)+9)+1)+5)) 18)]) []) (by kernel_rfl) ?_)
 simp(disch:=omega) only [W,cT,Int.reduceAdd,Int.zero_add]
 repeat refine⟨by omega,?_⟩
 exact hK
theorem eG{n w:Int} :aG n w=true↔0≤n∧n<2^w.toNat:=by
 unfold aG;simp only [cG,bU,Bool.and_eq_true,dT']
theorem fX{a:Nat}{x y p s q:Int}(e:p=2^a)(hx:0≤x∧x<p)(hy:0≤y)(h:y*p+x≤18446744073709551615)(hs:s=x+y*p)(eq:q=p):
 WU (((BitVec.ofInt 64 x|||BitVec.ofInt 64 (WU (WU y*q))).toNat :Int))=s:=by
 subst eq
 have hya:0≤y*q:=Int.mul_nonneg hy (by omega)
 have h1:y≤y*q:=by
  have:=Int.mul_le_mul_of_nonneg_left (show(1:Int)≤q by omega) hy
  omega
 have e1:WU y=y:=i8 (by omega)
 rw [e1]
 have e2:WU (y*q)=y*q:=i8 (by omega)
 rw [e2]
 subst e
 rw [uX hx hy (by have:(2:Int)^64=18446744073709551616:=by decide
                  omega)]
 rw [hs]
 exact i8 (by omega)
theorem SR(m:Bool):aG (bitI m) 1=true:=by cases m<;>rfl
theorem tI{n w:Int}(h:(!aG n w)=true):aG n w=false:=by simpa using h
theorem eK{n w:Int}(h:(!aG n w)=false):aG n w=true:=by simpa using h
def vC(k x:Int)(m:Bool)(c v:Int):Bool:=aG k 10&&(aG x 9&&(aG c 5&&aG v 18))
def bD(k x:Int)(m:Bool)(c v:Int):Int:=k+x*1024+bitI m*524288+c*1048576+v*33554432
def aAh:bL Ob:=fun args h=>match args,h with
 | [.agg [.int .i64 k,.int .i64 x,.bool m,.int .i64 c,.int .i64 v]],[]=>some (True,.tup [.int .u64 (bif vC k x m c v then bD k x m c v else 0),.int .i64 (bif vC k x m c v then 0 else 2)])
 | _,_=>none
set_option maxRecDepth 100000 in
theorem aAi:aJ.ok E11.I Tryz.prog 164 aAh.spec:=by
 intro args h o ho K hK
 unfold bL.spec at ho
 split at ho
 case h_2=>cases ho
 rename_i p v hv
 unfold aAh at hv
 split at hv
 case h_2=>cases hv
 rename_i k x m c v
 simp only [sI',pI']at hv
 obtain⟨rfl,rfl⟩:=hv
 simp only [sI']at ho;subst ho
 obtain⟨_,hK⟩:=hK
 refine aC8 (cM' (E:=E11) (q:=True∧((0:Int)≤(0:Int)∧(0:Int)<(↑5:Int))∧((0:Int)≤(10:Int)∧(10:Int)≤(62:Int))∧bif !aG k 10 then K (.tup [.int .u64 0,.int .i64 2]) []else(0:Int)≤(0:Int)∧((0:Int)≤W (0+1)∧W (0+1)<(↑5:Int))∧((0:Int)≤(9:Int)∧(9:Int)≤(62:Int))∧bif !aG x 9 then K (.tup [.int .u64 0,.int .i64 2]) []else(0:Int)≤W (0+10)∧((0:Int)≤W (W (0+1)+1)∧W (W (0+1)+1)<(↑5:Int))∧((0:Int)≤(1:Int)∧(1:Int)≤(62:Int))∧bif !aG (bitI m) 1 then K (.tup [.int .u64 0,.int .i64 2]) []else(0:Int)≤W (W (0+10)+9)∧((0:Int)≤W (W (W (0+1)+1)+1)∧W (W (W (0+1)+1)+1)<(↑5:Int))∧((0:Int)≤(5:Int)∧(5:Int)≤(62:Int))∧bif !aG c 5 then K (.tup [.int .u64 0,.int .i64 2]) []else(0:Int)≤W (W (W (0+10)+9)+1)∧((0:Int)≤W (W (W (W (0+1)+1)+1)+1)∧W (W (W (W (0+1)+1)+1)+1)<(↑5:Int))∧((0:Int)≤(18:Int)∧(18:Int)≤(62:Int))∧bif !aG v 18 then K (.tup [.int .u64 0,.int .i64 2]) []else(0:Int)≤W (W (W (W (0+10)+9)+1)+5)∧K (.tup [.int .u64 (WU (↑(BitVec.toNat (BitVec.ofInt (IntKind.bits .u64) (WU (↑(BitVec.toNat (BitVec.ofInt (IntKind.bits .u64) (WU (↑(BitVec.toNat (BitVec.ofInt (IntKind.bits .u64) (WU (↑(BitVec.toNat (BitVec.ofInt (IntKind.bits .u64) (WU (↑(BitVec.toNat (BitVec.ofInt (IntKind.bits .u64) 0|||BitVec.ofInt (IntKind.bits .u64) (WU (WU k*2^min (Int.toNat 0) (IntKind.bits .u64))))):Int))|||BitVec.ofInt (IntKind.bits .u64) (WU (WU x*2^min (Int.toNat (W (0+10))) (IntKind.bits .u64))))):Int))|||BitVec.ofInt (IntKind.bits .u64) (WU (WU (bitI m)*2^min (Int.toNat (W (W (0+10)+9))) (IntKind.bits .u64))))):Int))|||BitVec.ofInt (IntKind.bits .u64) (WU (WU c*2^min (Int.toNat (W (W (W (0+10)+9)+1))) (IntKind.bits .u64))))):Int))|||BitVec.ofInt (IntKind.bits .u64) (WU (WU v*2^min (Int.toNat (W (W (W (W (0+10)+9)+1)+5))) (IntKind.bits .u64))))):Int)),.int .i64 0]) []) (by kernel_rfl) ?_)
 simp(disch:=omega) only [W,cT,Int.reduceAdd,Int.zero_add,Int.reduceToNat]
 refine⟨trivial,⟨by omega,by omega⟩,by omega,aW (fun e=>?_) (fun e1=>⟨by omega,by omega,by omega,aW (fun e=>?_) (fun e2=>⟨by omega,by omega,by omega,aW (fun e=>?_) (fun _=>⟨by omega,by omega,by omega,aW (fun e=>?_) (fun e3=>⟨by omega,by omega,by omega,aW (fun e=>?_) (fun e4=>⟨by omega,?_⟩)⟩)⟩)⟩)⟩)⟩
 ·unfold vC at hK
  rw [tI e]at hK
  exact hK
 ·unfold vC at hK
  rw [eK e1,tI e]at hK
  exact hK
 ·rw [SR]at e;cases e
 ·unfold vC at hK
  rw [eK e1,eK e2,tI e]at hK
  exact hK
 ·unfold vC at hK
  rw [eK e1,eK e2,eK e3,tI e]at hK
  exact hK
 ·unfold vC at hK
  rw [eK e1,eK e2,eK e3,eK e4]at hK
  have f1:=eG.1 (eK e1)
  have f2:=eG.1 (eK e2)
  have f3:=eG.1 (eK e3)
  have f4:=eG.1 (eK e4)
  have fm:0≤bitI m∧bitI m≤1:=by cases m<;>decide
  have hb:IntKind.bits .u64 =64:=rfl
  have p1:(2:Int)^(10:Int).toNat =1024:=by decide
  have p2:(2:Int)^(9:Int).toNat =512:=by decide
  have p3:(2:Int)^(5:Int).toNat =32:=by decide
  have p4:(2:Int)^(18:Int).toNat =262144:=by decide
  rw [p1]at f1;rw [p2]at f2;rw [p3]at f3;rw [p4]at f4
  refine cast (congrArg (fun z=>K (AVal.tup [.int .u64 z,.int .i64 0]) []) ?_) hK
  show bD k x m c v=_
  unfold bD
  symm
  have q0:=fX (a:=0) (x:=0) (y:=k) (p:=1) (q:=2^min 0 64) (s:=k) (by decide) (by omega) (by omega) (by omega) (by omega) (by decide)
  have q1:=fX (a:=10) (x:=k) (y:=x) (p:=1024) (q:=2^min 10 64) (s:=k+x*1024) (by decide) (by omega) (by omega) (by omega) (by omega) (by decide)
  have q2:=fX (a:=19) (x:=k+x*1024) (y:=bitI m) (p:=524288) (q:=2^min 19 64) (s:=k+x*1024+bitI m*524288) (by decide) (by omega) (by omega) (by omega) (by omega) (by decide)
  have q3:=fX (a:=20) (x:=k+x*1024+bitI m*524288) (y:=c) (p:=1048576) (q:=2^min 20 64) (s:=k+x*1024+bitI m*524288+c*1048576) (by decide) (by omega) (by omega) (by omega) (by omega) (by decide)
  have q4:=fX (a:=25) (x:=k+x*1024+bitI m*524288+c*1048576) (y:=v) (p:=33554432) (q:=2^min 25 64) (s:=k+x*1024+bitI m*524288+c*1048576+v*33554432) (by decide) (by omega) (by omega) (by omega) (by omega) (by decide)
  rw [hb]
  rw [WU]at q0 q1 q2 q3 q4
  simp only [WU]at q0 q1 q2 q3 q4⊢
  rw [q0,q1,q2,q3,q4]
noncomputable def E12:=(E11.addR 122 ZG ZH).addR 164 aAh aAi
noncomputable def E13a:=E12
theorem yC{x:Int}(h: -9223372036854775808≤x∧x≤9223372036854775807):W x=x:=cT h
noncomputable def E13:=E13a
theorem U9{x t:Int}(h:0≤x)(ht:1≤t):0≤Int.tmod x t∧Int.tmod x t<t:=by
 rw [Int.tmod_eq_emod_of_nonneg h]
 exact⟨Int.emod_nonneg _ (by omega),Int.emod_lt_of_pos _ (by omega)⟩
noncomputable def E14:=E13
theorem R9(x:Int){b:Int}(h:0<b):0≤x%b∧x%b<b:=⟨Int.emod_nonneg _ (by omega),Int.emod_lt_of_pos _ h⟩
theorem lY{x a w:Int} :0≤aA x a w∧aA x a w<2^w.toNat:=R9 _ (iW _)
def reS:bL Ob:=fun args h=>match args,h with
 | [.agg [.int .i64 k,.int .i64 y,.bool m,.int .i64 c,.int .i64 v]],[]=>some ((0≤k∧k<1024)∧(0≤y∧y<512)∧(0≤c∧c<32)∧(0≤v∧v<262144),.int .u64 (bD k y m c v))
 | _,_=>none
theorem aBS:aJ.ok E14.I Tryz.prog 66 reS.spec:=by
 intro args h o ho K hK
 unfold bL.spec at ho
 split at ho
 case h_2=>cases ho
 rename_i p vv hv
 unfold reS at hv
 split at hv
 case h_2=>cases hv
 rename_i k y m c v
 simp only [sI',pI']at hv
 obtain⟨rfl,rfl⟩:=hv
 simp only [sI']at ho;subst ho
 obtain⟨⟨hk,hy,hc,hv⟩,hK⟩:=hK
 have hK:K (.int .u64 (bD k y m c v)) []:=hK
 refine aC8 (cM' (E:=E14) (q:=bif m then(1024:Int)≠(0:Int)∧(512:Int)≠(0:Int)∧(32:Int)≠(0:Int)∧(262144:Int)≠(0:Int)∧K (.int .u64 (WU (W (W (W (W (Int.tmod k 1024+W (Int.tmod y 512*1024))+W (1*524288))+W (Int.tmod c 32*1048576))+W (Int.tmod v 262144*33554432))))) []else(1024:Int)≠(0:Int)∧(512:Int)≠(0:Int)∧(32:Int)≠(0:Int)∧(262144:Int)≠(0:Int)∧K (.int .u64 (WU (W (W (W (W (Int.tmod k 1024+W (Int.tmod y 512*1024))+W (0*524288))+W (Int.tmod c 32*1048576))+W (Int.tmod v 262144*33554432))))) []) (by kernel_rfl) ?_)
 have e1:Int.tmod k 1024=k:=by rw [Int.tmod_eq_emod_of_nonneg (by omega)];omega
 have e2:Int.tmod y 512=y:=by rw [Int.tmod_eq_emod_of_nonneg (by omega)];omega
 have e3:Int.tmod c 32=c:=by rw [Int.tmod_eq_emod_of_nonneg (by omega)];omega
 have e4:Int.tmod v 262144=v:=by rw [Int.tmod_eq_emod_of_nonneg (by omega)];omega
 rw [e1,e2,e3,e4]
 unfold bD at hK
 cases m
 all_goals
  simp(disch:=omega) only [W,WU,cT,i8,cond_true,cond_false,bitI]at hK⊢
  repeat refine⟨by omega,?_⟩
  refine cast (congrArg (fun z=>K (AVal.int .u64 z) []) ?_) hK
  omega
noncomputable def E15:=(E14).addR 66 reS aBS
structure TS where
 i:Int
 bad:Bool
 out:Bool
instance:Inhabited TS:=⟨⟨0,false,false⟩⟩
def a0(r:List Int):Int:=List.headD r 0
def a1(r:List Int):Int:=List.headD (List.tail r) 0
def a2(r:List Int):Int:=List.headD (List.tail (List.tail r)) 0
def a3(r:List Int):Int:=List.headD (List.tail (List.tail (List.tail r))) 0
def a4(r:List Int):Bool:=!ieq (List.headD (List.tail (List.tail (List.tail (List.tail r)))) 0) 0
theorem aAa{b:Bool}(h:(!b)=true):b=false:=by simpa using h
theorem Z9{b:Bool}(h:(!b)=false):b=true:=by simpa using h
noncomputable def E16a:=(E15)
noncomputable def E16:=((((E16a))))
structure okW (xs:List Int):Prop where
 h: ∀x∈xs,0≤x∧x≤18446744073709551615
theorem jL{xs:List Int}(h:okW xs)(a:Int):0≤aB xs a∧aB xs a≤18446744073709551615:=by
 unfold aB
 split
 ·rename_i hi
  have hlt:a.toNat<xs.length:=by omega
  rw [gD',gE' hlt]
  exact h.h _ (List.getElem_mem hlt)
 ·omega
def lJ(s:Int):Bool:=ile 1 s&&ile s 4
def resC(d e:Int):Int:=bif ieq e 5 then(bif ieq d 1 then 4 else 0)else 5
def UQ(d e:Int)(m:Bool):Bool:=bif ieq e 5 then(bif ieq d 1 then false else m)else false
def UR(d e f:Int):Int:=bif ieq e 5 then(bif ieq d 1 then 0 else f)else 0
def cO(a b c d:Int)(m:Bool)(e f:Int):Int:=a+b*4096+c*2097152+d*549755813888+bitI m*281474976710656+e*562949953421312+f*4503599627370496
def dOk(a b c d e f:Int):Bool:=aG a 12&&(aG b 9&&(aG c 18&&(aG d 9&&(aG e 3&&aG f 10))))
theorem RI{x a w:Int}(ha:0≤a∧a≤63)(hw:0≤w∧w≤62):IntKind.wrap .i64 (IntKind.wrap .u64 ((BitVec.ofInt (IntKind.bits .u64) (Int.fdiv x (2^min (Int.toNat a) (IntKind.bits .u64)))&&&BitVec.ofInt (IntKind.bits .u64) (IntKind.wrap .u64 (IntKind.wrap .u64 (1*2^min (Int.toNat w) (IntKind.bits .u64)) - 1))).toNat :Int))=aA x a w:=by
 have hb:IntKind.bits .u64 =64:=rfl
 rw [hb]
 have h1:min a.toNat 64=a.toNat:=by omega
 have h2:min w.toNat 64=w.toNat:=by omega
 have h3:(2:Int)^w.toNat≤4611686018427387904:=AB (n:=62) (by omega) (by decide)
 have h4:=iW w.toNat
 have h5:=iW a.toNat
 rw [h1,h2,Int.fdiv_eq_ediv_of_nonneg _ (by omega)]
 simp only [WU,W,Int.one_mul]
 rw [i8 (x:=2^w.toNat) (by omega),i8 (x:=2^w.toNat - 1) (by omega),i9 _ (by omega)]
 have h6:=Int.emod_nonneg (x / 2^a.toNat) (b:=2^w.toNat) (by omega)
 have h7:=Int.emod_lt_of_pos (x / 2^a.toNat) (b:=2^w.toNat) (by omega)
 rw [i8 (by omega),cT (by omega)]
 rfl
def NA:bL Ob:=fun args h=>match args,h with
 | [.int .u64 x],[]=>some (True,.agg [.int .i64 (aA x 0 12),.int .i64 (aA x 12 9),.int .i64 (aA x 21 18),.int .i64 (aA x 39 9),.bool (ieq (aA x 48 1) 1),.int .i64 (aA x 49 3),.int .i64 (aA x 52 10)])
 | _,_=>none
set_option maxRecDepth 100000 in
theorem RM:aJ.ok E16.I Tryz.prog 102 NA.spec:=by
 intro args h o ho K hK
 unfold bL.spec at ho
 split at ho
 case h_2=>cases ho
 rename_i pp vv hv
 unfold NA at hv
 split at hv
 case h_2=>cases hv
 rename_i x
 simp only [sI',pI']at hv
 obtain⟨rfl,rfl⟩:=hv
 simp only [sI']at ho;subst ho
 obtain⟨hp,hK⟩:=hK
 have hK:K (.agg [.int .i64 (aA x 0 12),.int .i64 (aA x 12 9),.int .i64 (aA x 21 18),.int .i64 (aA x 39 9),.bool (ieq (aA x 48 1) 1),.int .i64 (aA x 49 3),.int .i64 (aA x 52 10)]) []:=hK
 refine aC8 (cM' (E:=E16) (q:=((0:Int)≤(0:Int)∧(0:Int)<(↑7:Int))∧((0:Int)≤(0:Int)∧(0:Int)<(↑1:Int))∧1+(1:Nat)≤(4294967296:Nat)∧((0:Int)≤W (0+1)∧W (0+1)<(↑7:Int))∧((0:Int)≤W (0+1)∧W (0+1)<(↑(1+1):Int))∧1+1+(1:Nat)≤(4294967296:Nat)∧((0:Int)≤W (W (0+1)+1)∧W (W (0+1)+1)<(↑7:Int))∧((0:Int)≤W (W (0+1)+1)∧W (W (0+1)+1)<(↑(1+1+1):Int))∧1+1+1+(1:Nat)≤(4294967296:Nat)∧((0:Int)≤W (W (W (0+1)+1)+1)∧W (W (W (0+1)+1)+1)<(↑7:Int))∧((0:Int)≤W (W (W (0+1)+1)+1)∧W (W (W (0+1)+1)+1)<(↑(1+1+1+1):Int))∧1+1+1+1+(1:Nat)≤(4294967296:Nat)∧((0:Int)≤W (W (W (W (0+1)+1)+1)+1)∧W (W (W (W (0+1)+1)+1)+1)<(↑7:Int))∧((0:Int)≤W (W (W (W (0+1)+1)+1)+1)∧W (W (W (W (0+1)+1)+1)+1)<(↑(1+1+1+1+1):Int))∧1+1+1+1+1+(1:Nat)≤(4294967296:Nat)∧((0:Int)≤W (W (W (W (W (0+1)+1)+1)+1)+1)∧W (W (W (W (W (0+1)+1)+1)+1)+1)<(↑7:Int))∧((0:Int)≤W (W (W (W (W (0+1)+1)+1)+1)+1)∧W (W (W (W (W (0+1)+1)+1)+1)+1)<(↑(1+1+1+1+1+1):Int))∧1+1+1+1+1+1+(1:Nat)≤(4294967296:Nat)∧((0:Int)≤W (W (W (W (W (W (0+1)+1)+1)+1)+1)+1)∧W (W (W (W (W (W (0+1)+1)+1)+1)+1)+1)<(↑7:Int))∧((0:Int)≤W (W (W (W (W (W (0+1)+1)+1)+1)+1)+1)∧W (W (W (W (W (W (0+1)+1)+1)+1)+1)+1)<(↑(1+1+1+1+1+1+1):Int))∧1+1+1+1+1+1+1+(1:Nat)≤(4294967296:Nat)∧((0:Int)≤(0:Int)∧(0:Int)<(↑(1+1+1+1+1+1+1+1):Int))∧(0:Int)≤(0:Int)∧((0:Int)≤(0:Int)∧(0:Int)<(↑7:Int))∧(0:Int)≤(12:Int)∧((0:Int)≤(0:Int)∧(0:Int)<(↑7:Int))∧((0:Int)≤W (0+1)∧W (0+1)<(↑(1+1+1+1+1+1+1+1):Int))∧(0:Int)≤W (0+12)∧((0:Int)≤W (0+1)∧W (0+1)<(↑7:Int))∧(0:Int)≤(9:Int)∧((0:Int)≤W (0+1)∧W (0+1)<(↑7:Int))∧((0:Int)≤W (W (0+1)+1)∧W (W (0+1)+1)<(↑(1+1+1+1+1+1+1+1):Int))∧(0:Int)≤W (W (0+12)+9)∧((0:Int)≤W (W (0+1)+1)∧W (W (0+1)+1)<(↑7:Int))∧(0:Int)≤(18:Int)∧((0:Int)≤W (W (0+1)+1)∧W (W (0+1)+1)<(↑7:Int))∧((0:Int)≤W (W (W (0+1)+1)+1)∧W (W (W (0+1)+1)+1)<(↑(1+1+1+1+1+1+1+1):Int))∧(0:Int)≤W (W (W (0+12)+9)+18)∧((0:Int)≤W (W (W (0+1)+1)+1)∧W (W (W (0+1)+1)+1)<(↑7:Int))∧(0:Int)≤(9:Int)∧((0:Int)≤W (W (W (0+1)+1)+1)∧W (W (W (0+1)+1)+1)<(↑7:Int))∧((0:Int)≤W (W (W (W (0+1)+1)+1)+1)∧W (W (W (W (0+1)+1)+1)+1)<(↑(1+1+1+1+1+1+1+1):Int))∧(0:Int)≤W (W (W (W (0+12)+9)+18)+9)∧((0:Int)≤W (W (W (W (0+1)+1)+1)+1)∧W (W (W (W (0+1)+1)+1)+1)<(↑7:Int))∧(0:Int)≤(1:Int)∧((0:Int)≤W (W (W (W (0+1)+1)+1)+1)∧W (W (W (W (0+1)+1)+1)+1)<(↑7:Int))∧((0:Int)≤W (W (W (W (W (0+1)+1)+1)+1)+1)∧W (W (W (W (W (0+1)+1)+1)+1)+1)<(↑(1+1+1+1+1+1+1+1):Int))∧(0:Int)≤W (W (W (W (W (0+12)+9)+18)+9)+1)∧((0:Int)≤W (W (W (W (W (0+1)+1)+1)+1)+1)∧W (W (W (W (W (0+1)+1)+1)+1)+1)<(↑7:Int))∧(0:Int)≤(3:Int)∧((0:Int)≤W (W (W (W (W (0+1)+1)+1)+1)+1)∧W (W (W (W (W (0+1)+1)+1)+1)+1)<(↑7:Int))∧((0:Int)≤W (W (W (W (W (W (0+1)+1)+1)+1)+1)+1)∧W (W (W (W (W (W (0+1)+1)+1)+1)+1)+1)<(↑(1+1+1+1+1+1+1+1):Int))∧(0:Int)≤W (W (W (W (W (W (0+12)+9)+18)+9)+1)+3)∧((0:Int)≤W (W (W (W (W (W (0+1)+1)+1)+1)+1)+1)∧W (W (W (W (W (W (0+1)+1)+1)+1)+1)+1)<(↑7:Int))∧(0:Int)≤(10:Int)∧((0:Int)≤W (W (W (W (W (W (0+1)+1)+1)+1)+1)+1)∧W (W (W (W (W (W (0+1)+1)+1)+1)+1)+1)<(↑7:Int))∧((0:Int)≤(0:Int)∧(0:Int)<(↑7:Int))∧((0:Int)≤(1:Int)∧(1:Int)<(↑7:Int))∧((0:Int)≤(2:Int)∧(2:Int)<(↑7:Int))∧((0:Int)≤(3:Int)∧(3:Int)<(↑7:Int))∧((0:Int)≤(4:Int)∧(4:Int)<(↑7:Int))∧((0:Int)≤(5:Int)∧(5:Int)<(↑7:Int))∧((0:Int)≤(6:Int)∧(6:Int)<(↑7:Int))∧K (.agg [.int .i64 (W (WU (↑(BitVec.toNat (BitVec.ofInt (IntKind.bits .u64) (Int.fdiv x (2^min (Int.toNat 0) (IntKind.bits .u64)))&&&BitVec.ofInt (IntKind.bits .u64) (WU (WU (1*2^min (Int.toNat 12) (IntKind.bits .u64)) - 1)))):Int))),.int .i64 (W (WU (↑(BitVec.toNat (BitVec.ofInt (IntKind.bits .u64) (Int.fdiv x (2^min (Int.toNat (W (0+12))) (IntKind.bits .u64)))&&&BitVec.ofInt (IntKind.bits .u64) (WU (WU (1*2^min (Int.toNat 9) (IntKind.bits .u64)) - 1)))):Int))),.int .i64 (W (WU (↑(BitVec.toNat (BitVec.ofInt (IntKind.bits .u64) (Int.fdiv x (2^min (Int.toNat (W (W (0+12)+9))) (IntKind.bits .u64)))&&&BitVec.ofInt (IntKind.bits .u64) (WU (WU (1*2^min (Int.toNat 18) (IntKind.bits .u64)) - 1)))):Int))),.int .i64 (W (WU (↑(BitVec.toNat (BitVec.ofInt (IntKind.bits .u64) (Int.fdiv x (2^min (Int.toNat (W (W (W (0+12)+9)+18))) (IntKind.bits .u64)))&&&BitVec.ofInt (IntKind.bits .u64) (WU (WU (1*2^min (Int.toNat 9) (IntKind.bits .u64)) - 1)))):Int))),.bool (ieq (W (WU (↑(BitVec.toNat (BitVec.ofInt (IntKind.bits .u64) (Int.fdiv x (2^min (Int.toNat (W (W (W (W (0+12)+9)+18)+9))) (IntKind.bits .u64)))&&&BitVec.ofInt (IntKind.bits .u64) (WU (WU (1*2^min (Int.toNat 1) (IntKind.bits .u64)) - 1)))):Int))) 1),.int .i64 (W (WU (↑(BitVec.toNat (BitVec.ofInt (IntKind.bits .u64) (Int.fdiv x (2^min (Int.toNat (W (W (W (W (W (0+12)+9)+18)+9)+1))) (IntKind.bits .u64)))&&&BitVec.ofInt (IntKind.bits .u64) (WU (WU (1*2^min (Int.toNat 3) (IntKind.bits .u64)) - 1)))):Int))),.int .i64 (W (WU (↑(BitVec.toNat (BitVec.ofInt (IntKind.bits .u64) (Int.fdiv x (2^min (Int.toNat (W (W (W (W (W (W (0+12)+9)+18)+9)+1)+3))) (IntKind.bits .u64)))&&&BitVec.ofInt (IntKind.bits .u64) (WU (WU (1*2^min (Int.toNat 10) (IntKind.bits .u64)) - 1)))):Int)))]) []) (by kernel_rfl) ?_)
 simp(disch:=omega) only [W,WU,cT,Int.reduceAdd,Int.zero_add]
 simp(disch:=omega) only [RI]
 repeat refine⟨by omega,?_⟩
 exact hK
theorem xG{a b:Int}{X Y:Prop}(h1:a<b→X)(h2:b≤a→Y):cond (ilt a b) X Y:=
 aW (fun e=>h1 (by rw [bU,dT']at e;exact e)) (fun e=>h2 (by rw [bU,dF']at e;omega))
theorem xE{a b:Int}{X Y:Prop}(h1:a≤b→X)(h2:b<a→Y):cond (ile a b) X Y:=
 aW (fun e=>h1 (by rw [cG,dT']at e;exact e)) (fun e=>h2 (by rw [cG,dF']at e;omega))
theorem HE{a b:Int}{X Y:Prop}(h1:a=b→X)(h2:a≠b→Y):cond (ieq a b) X Y:=
 aW (fun e=>h1 (by rw [bI]at e;simpa using e)) (fun e=>h2 (by rw [bI]at e;simpa using e))
theorem pQ{a b c d e f:Int} :dOk a b c d e f=true↔(0≤a∧a<4096)∧(0≤b∧b<512)∧(0≤c∧c<262144)∧(0≤d∧d<512)∧(0≤e∧e<8)∧(0≤f∧f<1024):=by
 unfold dOk;simp only [Bool.and_eq_true,eG]<;>rfl
def NC:bL Ob:=fun args h=>match args,h with
 | [.agg [.int .i64 a,.int .i64 b,.int .i64 c,.int .i64 d,.bool m,.int .i64 e,.int .i64 f]],[]=>some (True,.tup [.int .u64 (bif dOk a b c d e f then cO a b c d m e f else 0),.int .i64 (bif dOk a b c d e f then 0 else 2)])
 | _,_=>none
set_option maxRecDepth 100000 in
theorem RN:aJ.ok E16.I Tryz.prog 113 NC.spec:=by
 intro args h o ho K hK
 unfold bL.spec at ho
 split at ho
 case h_2=>cases ho
 rename_i pp vv hv
 unfold NC at hv
 split at hv
 case h_2=>cases hv
 rename_i a b c d m e f
 simp only [sI',pI']at hv
 obtain⟨rfl,rfl⟩:=hv
 simp only [sI']at ho;subst ho
 obtain⟨hp,hK⟩:=hK
 have hK:K (.tup [.int .u64 (bif dOk a b c d e f then cO a b c d m e f else 0),.int .i64 (bif dOk a b c d e f then 0 else 2)]) []:=hK
 refine aC8 (cM' (E:=E16) (q:=((0:Int)≤(0:Int)∧(0:Int)<(↑7:Int))∧((0:Int)≤(0:Int)∧(0:Int)<(↑1:Int))∧1+(1:Nat)≤(4294967296:Nat)∧((0:Int)≤W (0+1)∧W (0+1)<(↑7:Int))∧((0:Int)≤W (0+1)∧W (0+1)<(↑(1+1):Int))∧1+1+(1:Nat)≤(4294967296:Nat)∧((0:Int)≤W (W (0+1)+1)∧W (W (0+1)+1)<(↑7:Int))∧((0:Int)≤W (W (0+1)+1)∧W (W (0+1)+1)<(↑(1+1+1):Int))∧1+1+1+(1:Nat)≤(4294967296:Nat)∧((0:Int)≤W (W (W (0+1)+1)+1)∧W (W (W (0+1)+1)+1)<(↑7:Int))∧((0:Int)≤W (W (W (0+1)+1)+1)∧W (W (W (0+1)+1)+1)<(↑(1+1+1+1):Int))∧1+1+1+1+(1:Nat)≤(4294967296:Nat)∧((0:Int)≤W (W (W (W (0+1)+1)+1)+1)∧W (W (W (W (0+1)+1)+1)+1)<(↑7:Int))∧((0:Int)≤W (W (W (W (0+1)+1)+1)+1)∧W (W (W (W (0+1)+1)+1)+1)<(↑(1+1+1+1+1):Int))∧1+1+1+1+1+(1:Nat)≤(4294967296:Nat)∧((0:Int)≤W (W (W (W (W (0+1)+1)+1)+1)+1)∧W (W (W (W (W (0+1)+1)+1)+1)+1)<(↑7:Int))∧((0:Int)≤W (W (W (W (W (0+1)+1)+1)+1)+1)∧W (W (W (W (W (0+1)+1)+1)+1)+1)<(↑(1+1+1+1+1+1):Int))∧1+1+1+1+1+1+(1:Nat)≤(4294967296:Nat)∧((0:Int)≤W (W (W (W (W (W (0+1)+1)+1)+1)+1)+1)∧W (W (W (W (W (W (0+1)+1)+1)+1)+1)+1)<(↑7:Int))∧((0:Int)≤W (W (W (W (W (W (0+1)+1)+1)+1)+1)+1)∧W (W (W (W (W (W (0+1)+1)+1)+1)+1)+1)<(↑(1+1+1+1+1+1+1):Int))∧1+1+1+1+1+1+1+(1:Nat)≤(4294967296:Nat)∧bif m then((0:Int)≤(0:Int)∧(0:Int)<(↑7:Int))∧bif ilt a 0 then K (.tup [.int .u64 0,.int .i64 2]) []else((0:Int)≤(0:Int)∧(0:Int)<(↑7:Int))∧(0:Int)≤(12:Int)∧bif ile (W (1*2^min (Int.toNat 12) (IntKind.bits .i64))) a then K (.tup [.int .u64 0,.int .i64 2]) []else((0:Int)≤(0:Int)∧(0:Int)<(↑(1+1+1+1+1+1+1+1):Int))∧(0:Int)≤(0:Int)∧((0:Int)≤W (0+1)∧W (0+1)<(↑7:Int))∧bif ilt b 0 then K (.tup [.int .u64 0,.int .i64 2]) []else((0:Int)≤W (0+1)∧W (0+1)<(↑7:Int))∧(0:Int)≤(9:Int)∧bif ile (W (1*2^min (Int.toNat 9) (IntKind.bits .i64))) b then K (.tup [.int .u64 0,.int .i64 2]) []else((0:Int)≤W (0+1)∧W (0+1)<(↑(1+1+1+1+1+1+1+1):Int))∧(0:Int)≤W (0+12)∧((0:Int)≤W (W (0+1)+1)∧W (W (0+1)+1)<(↑7:Int))∧bif ilt c 0 then K (.tup [.int .u64 0,.int .i64 2]) []else((0:Int)≤W (W (0+1)+1)∧W (W (0+1)+1)<(↑7:Int))∧(0:Int)≤(18:Int)∧bif ile (W (1*2^min (Int.toNat 18) (IntKind.bits .i64))) c then K (.tup [.int .u64 0,.int .i64 2]) []else((0:Int)≤W (W (0+1)+1)∧W (W (0+1)+1)<(↑(1+1+1+1+1+1+1+1):Int))∧(0:Int)≤W (W (0+12)+9)∧((0:Int)≤W (W (W (0+1)+1)+1)∧W (W (W (0+1)+1)+1)<(↑7:Int))∧bif ilt d 0 then K (.tup [.int .u64 0,.int .i64 2]) []else((0:Int)≤W (W (W (0+1)+1)+1)∧W (W (W (0+1)+1)+1)<(↑7:Int))∧(0:Int)≤(9:Int)∧bif ile (W (1*2^min (Int.toNat 9) (IntKind.bits .i64))) d then K (.tup [.int .u64 0,.int .i64 2]) []else((0:Int)≤W (W (W (0+1)+1)+1)∧W (W (W (0+1)+1)+1)<(↑(1+1+1+1+1+1+1+1):Int))∧(0:Int)≤W (W (W (0+12)+9)+18)∧((0:Int)≤W (W (W (W (0+1)+1)+1)+1)∧W (W (W (W (0+1)+1)+1)+1)<(↑7:Int))∧((0:Int)≤W (W (W (W (0+1)+1)+1)+1)∧W (W (W (W (0+1)+1)+1)+1)<(↑7:Int))∧(0:Int)≤(1:Int)∧((0:Int)≤W (W (W (W (0+1)+1)+1)+1)∧W (W (W (W (0+1)+1)+1)+1)<(↑(1+1+1+1+1+1+1+1):Int))∧(0:Int)≤W (W (W (W (0+12)+9)+18)+9)∧((0:Int)≤W (W (W (W (W (0+1)+1)+1)+1)+1)∧W (W (W (W (W (0+1)+1)+1)+1)+1)<(↑7:Int))∧bif ilt e 0 then K (.tup [.int .u64 0,.int .i64 2]) []else((0:Int)≤W (W (W (W (W (0+1)+1)+1)+1)+1)∧W (W (W (W (W (0+1)+1)+1)+1)+1)<(↑7:Int))∧(0:Int)≤(3:Int)∧bif ile (W (1*2^min (Int.toNat 3) (IntKind.bits .i64))) e then K (.tup [.int .u64 0,.int .i64 2]) []else((0:Int)≤W (W (W (W (W (0+1)+1)+1)+1)+1)∧W (W (W (W (W (0+1)+1)+1)+1)+1)<(↑(1+1+1+1+1+1+1+1):Int))∧(0:Int)≤W (W (W (W (W (0+12)+9)+18)+9)+1)∧((0:Int)≤W (W (W (W (W (W (0+1)+1)+1)+1)+1)+1)∧W (W (W (W (W (W (0+1)+1)+1)+1)+1)+1)<(↑7:Int))∧bif ilt f 0 then K (.tup [.int .u64 0,.int .i64 2]) []else((0:Int)≤W (W (W (W (W (W (0+1)+1)+1)+1)+1)+1)∧W (W (W (W (W (W (0+1)+1)+1)+1)+1)+1)<(↑7:Int))∧(0:Int)≤(10:Int)∧bif ile (W (1*2^min (Int.toNat 10) (IntKind.bits .i64))) f then K (.tup [.int .u64 0,.int .i64 2]) []else((0:Int)≤W (W (W (W (W (W (0+1)+1)+1)+1)+1)+1)∧W (W (W (W (W (W (0+1)+1)+1)+1)+1)+1)<(↑(1+1+1+1+1+1+1+1):Int))∧(0:Int)≤W (W (W (W (W (W (0+12)+9)+18)+9)+1)+3)∧K (.tup [.int .u64 (WU (↑(BitVec.toNat (BitVec.ofInt (IntKind.bits .u64) (WU (↑(BitVec.toNat (BitVec.ofInt (IntKind.bits .u64) (WU (↑(BitVec.toNat (BitVec.ofInt (IntKind.bits .u64) (WU (↑(BitVec.toNat (BitVec.ofInt (IntKind.bits .u64) (WU (↑(BitVec.toNat (BitVec.ofInt (IntKind.bits .u64) (WU (↑(BitVec.toNat (BitVec.ofInt (IntKind.bits .u64) (WU (↑(BitVec.toNat (BitVec.ofInt (IntKind.bits .u64) 0|||BitVec.ofInt (IntKind.bits .u64) (WU (WU a*2^min (Int.toNat 0) (IntKind.bits .u64))))):Int))|||BitVec.ofInt (IntKind.bits .u64) (WU (WU b*2^min (Int.toNat (W (0+12))) (IntKind.bits .u64))))):Int))|||BitVec.ofInt (IntKind.bits .u64) (WU (WU c*2^min (Int.toNat (W (W (0+12)+9))) (IntKind.bits .u64))))):Int))|||BitVec.ofInt (IntKind.bits .u64) (WU (WU d*2^min (Int.toNat (W (W (W (0+12)+9)+18))) (IntKind.bits .u64))))):Int))|||BitVec.ofInt (IntKind.bits .u64) (WU (WU 1*2^min (Int.toNat (W (W (W (W (0+12)+9)+18)+9))) (IntKind.bits .u64))))):Int))|||BitVec.ofInt (IntKind.bits .u64) (WU (WU e*2^min (Int.toNat (W (W (W (W (W (0+12)+9)+18)+9)+1))) (IntKind.bits .u64))))):Int))|||BitVec.ofInt (IntKind.bits .u64) (WU (WU f*2^min (Int.toNat (W (W (W (W (W (W (0+12)+9)+18)+9)+1)+3))) (IntKind.bits .u64))))):Int)),.int .i64 0]) []else((0:Int)≤(0:Int)∧(0:Int)<(↑7:Int))∧bif ilt a 0 then K (.tup [.int .u64 0,.int .i64 2]) []else((0:Int)≤(0:Int)∧(0:Int)<(↑7:Int))∧(0:Int)≤(12:Int)∧bif ile (W (1*2^min (Int.toNat 12) (IntKind.bits .i64))) a then K (.tup [.int .u64 0,.int .i64 2]) []else((0:Int)≤(0:Int)∧(0:Int)<(↑(1+1+1+1+1+1+1+1):Int))∧(0:Int)≤(0:Int)∧((0:Int)≤W (0+1)∧W (0+1)<(↑7:Int))∧bif ilt b 0 then K (.tup [.int .u64 0,.int .i64 2]) []else((0:Int)≤W (0+1)∧W (0+1)<(↑7:Int))∧(0:Int)≤(9:Int)∧bif ile (W (1*2^min (Int.toNat 9) (IntKind.bits .i64))) b then K (.tup [.int .u64 0,.int .i64 2]) []else((0:Int)≤W (0+1)∧W (0+1)<(↑(1+1+1+1+1+1+1+1):Int))∧(0:Int)≤W (0+12)∧((0:Int)≤W (W (0+1)+1)∧W (W (0+1)+1)<(↑7:Int))∧bif ilt c 0 then K (.tup [.int .u64 0,.int .i64 2]) []else((0:Int)≤W (W (0+1)+1)∧W (W (0+1)+1)<(↑7:Int))∧(0:Int)≤(18:Int)∧bif ile (W (1*2^min (Int.toNat 18) (IntKind.bits .i64))) c then K (.tup [.int .u64 0,.int .i64 2]) []else((0:Int)≤W (W (0+1)+1)∧W (W (0+1)+1)<(↑(1+1+1+1+1+1+1+1):Int))∧(0:Int)≤W (W (0+12)+9)∧((0:Int)≤W (W (W (0+1)+1)+1)∧W (W (W (0+1)+1)+1)<(↑7:Int))∧bif ilt d 0 then K (.tup [.int .u64 0,.int .i64 2]) []else((0:Int)≤W (W (W (0+1)+1)+1)∧W (W (W (0+1)+1)+1)<(↑7:Int))∧(0:Int)≤(9:Int)∧bif ile (W (1*2^min (Int.toNat 9) (IntKind.bits .i64))) d then K (.tup [.int .u64 0,.int .i64 2]) []else((0:Int)≤W (W (W (0+1)+1)+1)∧W (W (W (0+1)+1)+1)<(↑(1+1+1+1+1+1+1+1):Int))∧(0:Int)≤W (W (W (0+12)+9)+18)∧((0:Int)≤W (W (W (W (0+1)+1)+1)+1)∧W (W (W (W (0+1)+1)+1)+1)<(↑7:Int))∧((0:Int)≤W (W (W (W (0+1)+1)+1)+1)∧W (W (W (W (0+1)+1)+1)+1)<(↑7:Int))∧(0:Int)≤(1:Int)∧((0:Int)≤W (W (W (W (0+1)+1)+1)+1)∧W (W (W (W (0+1)+1)+1)+1)<(↑(1+1+1+1+1+1+1+1):Int))∧(0:Int)≤W (W (W (W (0+12)+9)+18)+9)∧((0:Int)≤W (W (W (W (W (0+1)+1)+1)+1)+1)∧W (W (W (W (W (0+1)+1)+1)+1)+1)<(↑7:Int))∧bif ilt e 0 then K (.tup [.int .u64 0,.int .i64 2]) []else((0:Int)≤W (W (W (W (W (0+1)+1)+1)+1)+1)∧W (W (W (W (W (0+1)+1)+1)+1)+1)<(↑7:Int))∧(0:Int)≤(3:Int)∧bif ile (W (1*2^min (Int.toNat 3) (IntKind.bits .i64))) e then K (.tup [.int .u64 0,.int .i64 2]) []else((0:Int)≤W (W (W (W (W (0+1)+1)+1)+1)+1)∧W (W (W (W (W (0+1)+1)+1)+1)+1)<(↑(1+1+1+1+1+1+1+1):Int))∧(0:Int)≤W (W (W (W (W (0+12)+9)+18)+9)+1)∧((0:Int)≤W (W (W (W (W (W (0+1)+1)+1)+1)+1)+1)∧W (W (W (W (W (W (0+1)+1)+1)+1)+1)+1)<(↑7:Int))∧bif ilt f 0 then K (.tup [.int .u64 0,.int .i64 2]) []else((0:Int)≤W (W (W (W (W (W (0+1)+1)+1)+1)+1)+1)∧W (W (W (W (W (W (0+1)+1)+1)+1)+1)+1)<(↑7:Int))∧(0:Int)≤(10:Int)∧bif ile (W (1*2^min (Int.toNat 10) (IntKind.bits .i64))) f then K (.tup [.int .u64 0,.int .i64 2]) []else((0:Int)≤W (W (W (W (W (W (0+1)+1)+1)+1)+1)+1)∧W (W (W (W (W (W (0+1)+1)+1)+1)+1)+1)<(↑(1+1+1+1+1+1+1+1):Int))∧(0:Int)≤W (W (W (W (W (W (0+12)+9)+18)+9)+1)+3)∧K (.tup [.int .u64 (WU (↑(BitVec.toNat (BitVec.ofInt (IntKind.bits .u64) (WU (↑(BitVec.toNat (BitVec.ofInt (IntKind.bits .u64) (WU (↑(BitVec.toNat (BitVec.ofInt (IntKind.bits .u64) (WU (↑(BitVec.toNat (BitVec.ofInt (IntKind.bits .u64) (WU (↑(BitVec.toNat (BitVec.ofInt (IntKind.bits .u64) (WU (↑(BitVec.toNat (BitVec.ofInt (IntKind.bits .u64) (WU (↑(BitVec.toNat (BitVec.ofInt (IntKind.bits .u64) 0|||BitVec.ofInt (IntKind.bits .u64) (WU (WU a*2^min (Int.toNat 0) (IntKind.bits .u64))))):Int))|||BitVec.ofInt (IntKind.bits .u64) (WU (WU b*2^min (Int.toNat (W (0+12))) (IntKind.bits .u64))))):Int))|||BitVec.ofInt (IntKind.bits .u64) (WU (WU c*2^min (Int.toNat (W (W (0+12)+9))) (IntKind.bits .u64))))):Int))|||BitVec.ofInt (IntKind.bits .u64) (WU (WU d*2^min (Int.toNat (W (W (W (0+12)+9)+18))) (IntKind.bits .u64))))):Int))|||BitVec.ofInt (IntKind.bits .u64) (WU (WU 0*2^min (Int.toNat (W (W (W (W (0+12)+9)+18)+9))) (IntKind.bits .u64))))):Int))|||BitVec.ofInt (IntKind.bits .u64) (WU (WU e*2^min (Int.toNat (W (W (W (W (W (0+12)+9)+18)+9)+1))) (IntKind.bits .u64))))):Int))|||BitVec.ofInt (IntKind.bits .u64) (WU (WU f*2^min (Int.toNat (W (W (W (W (W (W (0+12)+9)+18)+9)+1)+3))) (IntKind.bits .u64))))):Int)),.int .i64 0]) []) (by kernel_rfl) ?_)
 have no:dOk a b c d e f=false→K (.tup [.int .u64 0,.int .i64 2]) []:=by intro h;rw [h]at hK;exact hK
 have yes:dOk a b c d e f=true→K (.tup [.int .u64 (cO a b c d m e f),.int .i64 0]) []:=by intro h;rw [h]at hK;exact hK
 clear hK hp
 have w10:W (1*2^min (Int.toNat 10) (IntKind.bits .i64))=1024:=by decide
 have w12:W (1*2^min (Int.toNat 12) (IntKind.bits .i64))=4096:=by decide
 have w9:W (1*2^min (Int.toNat 9) (IntKind.bits .i64))=512:=by decide
 have w18:W (1*2^min (Int.toNat 18) (IntKind.bits .i64))=262144:=by decide
 have w3:W (1*2^min (Int.toNat 3) (IntKind.bits .i64))=8:=by decide
 rw [w10,w12,w9,w18,w3]
 simp(disch:=omega) only [W,cT,Int.reduceAdd,Int.zero_add,Int.reduceToNat]
 cases m
 ·simp only [cond_true,cond_false]
  repeat' first
   | refine⟨by omega,?_⟩
   | refine xG (fun _=>?_) (fun _=>?_)
   | refine xE (fun _=>?_) (fun _=>?_)
  all_goals first
   | exact no (by cases h:dOk a b c d e f with
                  | false=>rfl
                  | true=>have:=pQ.1 h;omega)
   | skip
  have ok:dOk a b c d e f=true:=pQ.2 (by omega)
  refine cast (congrArg (fun z=>K (AVal.tup [.int .u64 z,.int .i64 0]) []) ?_) (yes ok)
  symm
  have hb:IntKind.bits .u64 =64:=rfl
  rw [hb]
  clear yes no ok
  have q0:=fX (a:=0) (x:=0) (y:=a) (p:=1) (q:=2^min 0 64) (s:=a) (by decide) (by omega) (by omega) (by omega) (by omega) (by decide)
  have q1:=fX (a:=12) (x:=a) (y:=b) (p:=4096) (q:=2^min 12 64) (s:=a+b*4096) (by decide) (by omega) (by omega) (by omega) (by omega) (by decide)
  have q2:=fX (a:=21) (x:=a+b*4096) (y:=c) (p:=2097152) (q:=2^min 21 64) (s:=a+b*4096+c*2097152) (by decide) (by omega) (by omega) (by omega) (by omega) (by decide)
  have q3:=fX (a:=39) (x:=a+b*4096+c*2097152) (y:=d) (p:=549755813888) (q:=2^min 39 64) (s:=a+b*4096+c*2097152+d*549755813888) (by decide) (by omega) (by omega) (by omega) (by omega) (by decide)
  have q4:=fX (a:=48) (x:=a+b*4096+c*2097152+d*549755813888) (y:=0) (p:=281474976710656) (q:=2^min 48 64) (s:=a+b*4096+c*2097152+d*549755813888+0*281474976710656) (by decide) (by omega) (by omega) (by omega) (by omega) (by decide)
  have q5:=fX (a:=49) (x:=a+b*4096+c*2097152+d*549755813888+0*281474976710656) (y:=e) (p:=562949953421312) (q:=2^min 49 64) (s:=a+b*4096+c*2097152+d*549755813888+0*281474976710656+e*562949953421312) (by decide) (by omega) (by omega) (by omega) (by omega) (by decide)
  have q6:=fX (a:=52) (x:=a+b*4096+c*2097152+d*549755813888+0*281474976710656+e*562949953421312) (y:=f) (p:=4503599627370496) (q:=2^min 52 64) (s:=a+b*4096+c*2097152+d*549755813888+0*281474976710656+e*562949953421312+f*4503599627370496) (by decide) (by omega) (by omega) (by omega) (by omega) (by decide)
  simp only [WU]at q0 q1 q2 q3 q4 q5 q6⊢
  rw [q0,q1,q2,q3,q4,q5,q6]
  unfold cO bitI
  rfl
 ·simp only [cond_true,cond_false]
  repeat' first
   | refine⟨by omega,?_⟩
   | refine xG (fun _=>?_) (fun _=>?_)
   | refine xE (fun _=>?_) (fun _=>?_)
  all_goals first
   | exact no (by cases h:dOk a b c d e f with
                  | false=>rfl
                  | true=>have:=pQ.1 h;omega)
   | skip
  have ok:dOk a b c d e f=true:=pQ.2 (by omega)
  refine cast (congrArg (fun z=>K (AVal.tup [.int .u64 z,.int .i64 0]) []) ?_) (yes ok)
  symm
  have hb:IntKind.bits .u64 =64:=rfl
  rw [hb]
  clear yes no ok
  have q0:=fX (a:=0) (x:=0) (y:=a) (p:=1) (q:=2^min 0 64) (s:=a) (by decide) (by omega) (by omega) (by omega) (by omega) (by decide)
  have q1:=fX (a:=12) (x:=a) (y:=b) (p:=4096) (q:=2^min 12 64) (s:=a+b*4096) (by decide) (by omega) (by omega) (by omega) (by omega) (by decide)
  have q2:=fX (a:=21) (x:=a+b*4096) (y:=c) (p:=2097152) (q:=2^min 21 64) (s:=a+b*4096+c*2097152) (by decide) (by omega) (by omega) (by omega) (by omega) (by decide)
  have q3:=fX (a:=39) (x:=a+b*4096+c*2097152) (y:=d) (p:=549755813888) (q:=2^min 39 64) (s:=a+b*4096+c*2097152+d*549755813888) (by decide) (by omega) (by omega) (by omega) (by omega) (by decide)
  have q4:=fX (a:=48) (x:=a+b*4096+c*2097152+d*549755813888) (y:=1) (p:=281474976710656) (q:=2^min 48 64) (s:=a+b*4096+c*2097152+d*549755813888+1*281474976710656) (by decide) (by omega) (by omega) (by omega) (by omega) (by decide)
  have q5:=fX (a:=49) (x:=a+b*4096+c*2097152+d*549755813888+1*281474976710656) (y:=e) (p:=562949953421312) (q:=2^min 49 64) (s:=a+b*4096+c*2097152+d*549755813888+1*281474976710656+e*562949953421312) (by decide) (by omega) (by omega) (by omega) (by omega) (by decide)
  have q6:=fX (a:=52) (x:=a+b*4096+c*2097152+d*549755813888+1*281474976710656+e*562949953421312) (y:=f) (p:=4503599627370496) (q:=2^min 52 64) (s:=a+b*4096+c*2097152+d*549755813888+1*281474976710656+e*562949953421312+f*4503599627370496) (by decide) (by omega) (by omega) (by omega) (by omega) (by decide)
  simp only [WU]at q0 q1 q2 q3 q4 q5 q6⊢
  rw [q0,q1,q2,q3,q4,q5,q6]
  unfold cO bitI
  rfl
noncomputable def E20:=(E16.addR 102 NA RM).addR 113 NC RN
def eN(a:Int):Int:=(a+1)%4096
def FP:bL Ob:=fun args h=>match args,h with
 | [.agg [.int .i64 a,.int .i64 b,.int .i64 c,.int .i64 d,.bool m,.int .i64 e,.int .i64 f]],[]=>some (0≤a∧a≤1000000,.agg [.int .i64 (eN a),.int .i64 0,.int .i64 0,.int .i64 0,.bool false,.int .i64 1,.int .i64 0])
 | _,_=>none
theorem OR:aJ.ok E20.I Tryz.prog 214 FP.spec:=by
 intro args h o ho K hK
 unfold bL.spec at ho
 split at ho
 case h_2=>cases ho
 rename_i pp vv hv
 unfold FP at hv
 split at hv
 case h_2=>cases hv
 rename_i a b c d m e f
 simp only [sI',pI']at hv
 obtain⟨rfl,rfl⟩:=hv
 simp only [sI']at ho;subst ho
 obtain⟨hp,hK⟩:=hK
 have hK:K (.agg [.int .i64 (eN a),.int .i64 0,.int .i64 0,.int .i64 0,.bool false,.int .i64 1,.int .i64 0]) []:=hK
 refine aC8 (cM' (E:=E20) (q:=K (.agg [.int .i64 (W (↑(BitVec.toNat (BitVec.ofInt (IntKind.bits .i64) (W (a+1))&&&BitVec.ofInt (IntKind.bits .i64) 4095)):Int)),.int .i64 0,.int .i64 0,.int .i64 0,.bool false,.int .i64 1,.int .i64 0]) []) (by kernel_rfl) ?_)
 refine cast (congrArg (fun z=>K (.agg [.int .i64 z,.int .i64 0,.int .i64 0,.int .i64 0,.bool false,.int .i64 1,.int .i64 0]) []) ?_) hK
 show eN a=_
 have hb:IntKind.bits .i64 =64:=rfl
 simp only [W]
 rw [hb,cT (x:=a+1) (by omega)]
 have:=i9 (n:=64) (w:=12) (a+1) (by omega)
 have e:(2:Int)^12 - 1=4095:=by decide
 rw [e]at this
 rw [this]
 have e2:(2:Int)^12=4096:=by decide
 rw [e2,cT (by omega)]
 rfl
def FT:bL Ob:=fun args h=>match args,h with
 | [.agg [.int .i64 a,.int .i64 b,.int .i64 c,.int .i64 d,.bool m,.int .i64 e,.int .i64 f]],[]=>some (True,.bool (lJ e))
 | _,_=>none
theorem OY:aJ.ok E8.I Tryz.prog 109 FT.spec:=by
 intro args h o ho K hK
 unfold bL.spec at ho
 split at ho
 case h_2=>cases ho
 rename_i pp vv hv
 unfold FT at hv
 split at hv
 case h_2=>cases hv
 rename_i a b c d m e f
 simp only [sI',pI']at hv
 obtain⟨rfl,rfl⟩:=hv
 simp only [sI']at ho;subst ho
 obtain⟨hp,hK⟩:=hK
 have hK:K (.bool (lJ e)) []:=hK
 refine aC8 (cM' (E:=E8) (q:=((0:Int)≤(0:Int)∧(0:Int)<(↑4:Int))∧bif ieq e 1 then K (.bool true) []else((0:Int)≤W (0+1)∧W (0+1)<(↑4:Int))∧bif ieq e 2 then K (.bool true) []else((0:Int)≤W (W (0+1)+1)∧W (W (0+1)+1)<(↑4:Int))∧bif ieq e 3 then K (.bool true) []else((0:Int)≤W (W (W (0+1)+1)+1)∧W (W (W (0+1)+1)+1)<(↑4:Int))∧bif ieq e 4 then K (.bool true) []else K (.bool false) []) (by kernel_rfl) ?_)
 have hb: ∀v:Bool,lJ e=v→K (.bool v) []:=by intro v h;rw [←h];exact hK
 have yes:1≤e∧e≤4→lJ e=true:=by intro h;unfold lJ;rw [cG,cG,decide_eq_true h.1,decide_eq_true h.2];rfl
 have no: ¬(1≤e∧e≤4)→lJ e=false:=by
  intro h;unfold lJ;rw [cG,cG]
  by_cases h1:1≤e
  ·rw [decide_eq_true h1,decide_eq_false (by omega)];rfl
  ·rw [decide_eq_false h1];rfl
 simp(disch:=omega) only [W,cT,Int.reduceAdd,Int.zero_add]
 repeat' first
  | refine⟨by omega,?_⟩
  | refine HE (fun _=>?_) (fun _=>?_)
 all_goals first
  | exact hb _ (yes (by omega))
  | exact hb _ (no (by omega))
def PJ:bL Ob:=fun args h=>match args,h with
 | [.agg [.int .i64 a,.int .i64 b,.int .i64 c,.int .i64 d,.bool m,.int .i64 e,.int .i64 f]],[]=>some (True,.agg [.int .i64 (resC d e),.bool (UQ d e m),.int .i64 (UR d e f)])
 | _,_=>none
theorem UP:aJ.ok E20.I Tryz.prog 107 PJ.spec:=by
 intro args h o ho K hK
 unfold bL.spec at ho
 split at ho
 case h_2=>cases ho
 rename_i pp vv hv
 unfold PJ at hv
 split at hv
 case h_2=>cases hv
 rename_i a b c d m e f
 simp only [sI',pI']at hv
 obtain⟨rfl,rfl⟩:=hv
 simp only [sI']at ho;subst ho
 obtain⟨hp,hK⟩:=hK
 have hK:K (.agg [.int .i64 (resC d e),.bool (UQ d e m),.int .i64 (UR d e f)]) []:=hK
 refine aC8 (cM' (E:=E20) (q:=bif !ieq e 5 then K (.agg [.int .i64 5,.bool false,.int .i64 0]) []else bif ieq d 1 then K (.agg [.int .i64 4,.bool false,.int .i64 0]) []else K (.agg [.int .i64 0,.bool m,.int .i64 f]) []) (by kernel_rfl) ?_)
 unfold resC UQ UR at hK
 generalize ieq e 5=b1 at hK⊢
 generalize ieq d 1=b2 at hK⊢
 cases b1<;>cases b2<;>exact hK
def EI:bL Ob:=fun args h=>match args,h with
 | [.agg [.int .i64 a,.int .i64 b,.int .i64 c,.int .i64 d,.bool m,.int .i64 e,.int .i64 f],.agg [.int .i64 g,.bool o,.int .i64 v]],[]=>some (True,.agg [.int .i64 a,.int .i64 0,.int .i64 0,.int .i64 (bif ieq g 4 then 1 else 0),.bool o,.int .i64 5,.int .i64 v])
 | _,_=>none
theorem NL:aJ.ok E20.I Tryz.prog 114 EI.spec:=by
 intro args h o ho K hK
 unfold bL.spec at ho
 split at ho
 case h_2=>cases ho
 rename_i pp vv hv
 unfold EI at hv
 split at hv
 case h_2=>cases hv
 rename_i a b c d m e f g o v
 simp only [sI',pI']at hv
 obtain⟨rfl,rfl⟩:=hv
 simp only [sI']at ho;subst ho
 obtain⟨hp,hK⟩:=hK
 have hK:K (.agg [.int .i64 a,.int .i64 0,.int .i64 0,.int .i64 (bif ieq g 4 then 1 else 0),.bool o,.int .i64 5,.int .i64 v]) []:=hK
 refine aC8 (cM' (E:=E20) (q:=bif ieq g 4 then K (.agg [.int .i64 a,.int .i64 0,.int .i64 0,.int .i64 1,.bool o,.int .i64 5,.int .i64 v]) []else K (.agg [.int .i64 a,.int .i64 0,.int .i64 0,.int .i64 0,.bool o,.int .i64 5,.int .i64 v]) []) (by kernel_rfl) ?_)
 generalize ieq g 4=b1 at hK⊢
 cases b1<;>exact hK
noncomputable def E21a:=(((((E20.addR 214 FP OR).addR 109 FT OY).addR 107 PJ UP).addR 114 EI NL))
noncomputable def E21:=(E21a)
theorem eD{s k y:Int} :aY s k y=true↔(((s=1∨s=2)∧1≤k∧k≤3)∨((s=3∨s=4)∧(k=4∨k=5)))∧0≤y∧y≤999∧(k=5→y≤0):=by
 have hm:(bif ieq k 5 then(0:Int)else 999)=if k=5 then 0 else 999:=by
  rw [bI];by_cases h:k=5
  ·simp [h]
  ·have h':(k == 5)=false:=by simpa using h
   rw [h',if_neg h];rfl
 have hk:k∈eI s↔(((s=1∨s=2)∧1≤k∧k≤3)∨((s=3∨s=4)∧(k=4∨k=5))):=by
  unfold eI
  rw [bI,bI,bI,bI]
  by_cases h1:s=1
  ·subst h1;simp;omega
  by_cases h2:s=2
  ·subst h2;simp;omega
  by_cases h3:s=3
  ·subst h3;simp
  by_cases h4:s=4
  ·subst h4;simp
  have g1:(s == 1)=false:=by simpa using h1
  have g2:(s == 2)=false:=by simpa using h2
  have g3:(s == 3)=false:=by simpa using h3
  have g4:(s == 4)=false:=by simpa using h4
  rw [g1,g2,g3,g4]
  simp [h1,h2,h3,h4]
 unfold aY
 rw [Bool.and_eq_true,Bool.and_eq_true,J8,hk,cG,cG,dT',dT',hm]
 by_cases h5:k=5
 ·simp [h5];omega
 ·simp [h5]
def tskV(s k y:Int):Int:=s+8*k+64*y
def P6:bL Ob:=fun args h=>match args,h with
 | [.agg [.int .i64 s,.int .i64 k,.int .i64 y]],[]=>some (True,.tup [.int .u64 (bif aY s k y then tskV s k y else 0),.int .i64 (bif aY s k y then 0 else 1)])
 | _,_=>none
theorem VB:aJ.ok E21.I Tryz.prog 171 P6.spec:=by
 intro args h o ho K hK
 unfold bL.spec at ho
 split at ho
 case h_2=>cases ho
 rename_i pp vv hv
 unfold P6 at hv
 split at hv
 case h_2=>cases hv
 rename_i s k y
 simp only [sI',pI']at hv
 obtain⟨rfl,rfl⟩:=hv
 simp only [sI']at ho;subst ho
 obtain⟨hp,hK⟩:=hK
 have hK:K (.tup [.int .u64 (bif aY s k y then tskV s k y else 0),.int .i64 (bif aY s k y then 0 else 1)]) []:=hK
 refine aC8 (cM' (E:=E21) (q:=True∧bif !aY s k y then K (.tup [.int .u64 0,.int .i64 1]) []else(0:Int)≤(3:Int)∧(0:Int)≤(6:Int)∧K (.tup [.int .u64 (WU (W (↑(BitVec.toNat (BitVec.ofInt (IntKind.bits .i64) (W (↑(BitVec.toNat (BitVec.ofInt (IntKind.bits .i64) s|||BitVec.ofInt (IntKind.bits .i64) (W (k*2^min (Int.toNat 3) (IntKind.bits .i64))))):Int))|||BitVec.ofInt (IntKind.bits .i64) (W (y*2^min (Int.toNat 6) (IntKind.bits .i64))))):Int))),.int .i64 0]) []) (by kernel_rfl) ?_)
 refine⟨trivial,aW (fun e=>?_) (fun e=>⟨by omega,by omega,?_⟩)⟩
 ·rw [aAa e]at hK;exact hK
 ·have e:=Z9 e
  rw [e]at hK
  have h:=eD.1 e
  refine cast (congrArg (fun z=>K (.tup [.int .u64 z,.int .i64 0]) []) ?_) hK
  show tskV s k y=_
  have hb:IntKind.bits .i64 =64:=rfl
  rw [hb]
  have p3:(2:Int)^min (Int.toNat 3) 64=2^3:=by decide
  have p6:(2:Int)^min (Int.toNat 6) 64=2^6:=by decide
  have v3:(2:Int)^3=8:=by decide
  have v6:(2:Int)^6=64:=by decide
  have v64:(2:Int)^64=18446744073709551616:=by decide
  rw [p3,p6]
  have q1:=uX (n:=64) (a:=3) (x:=s) (y:=k) (by omega) (by omega) (by omega)
  have w1:W (k*2^3)=k*2^3:=yC (by omega)
  rw [w1,q1]
  have w2:W (s+k*2^3)=s+k*2^3:=yC (by omega)
  have w3:W (y*2^6)=y*2^6:=yC (by omega)
  have q2:=uX (n:=64) (a:=6) (x:=s+k*2^3) (y:=y) (by omega) (by omega) (by omega)
  rw [w2,w3,q2]
  have w4:W (s+k*2^3+y*2^6)=s+k*2^3+y*2^6:=yC (by omega)
  have w5:WU (s+k*2^3+y*2^6)=s+k*2^3+y*2^6:=i8 (by omega)
  rw [w4,w5,v3,v6]
  unfold tskV
  omega
def Z6:bL Ob:=fun args h=>match args,h with
 | [.int .i64 s,.agg [.int .i64 k,.int .i64 y]],[]=>some (True,.bool (aY s k y))
 | _,_=>none
theorem Z7:aJ.ok E21.I Tryz.prog 16 Z6.spec:=by
 intro args h o ho K hK
 unfold bL.spec at ho
 split at ho
 case h_2=>cases ho
 rename_i pp vv hv
 unfold Z6 at hv
 split at hv
 case h_2=>cases hv
 rename_i s k y
 simp only [sI',pI']at hv
 obtain⟨rfl,rfl⟩:=hv
 simp only [sI']at ho;subst ho
 obtain⟨hp,hK⟩:=hK
 have hK:K (.bool (aY s k y)) []:=hK
 refine aC8 (cM' (E:=E21) (q:=bif ilt y 0 then K (.bool false) []else bif ilt 999 y then K (.bool false) []else bif ieq s 1 then bif ile 1 k then K (.bool (ile k 3)) []else K (.bool false) []else bif ieq s 2 then bif ile 1 k then K (.bool (ile k 3)) []else K (.bool false) []else bif ieq s 3 then bif ieq k 4 then K (.bool true) []else bif ieq k 5 then K (.bool (ieq y 0)) []else K (.bool false) []else bif ieq s 4 then bif ieq k 4 then K (.bool true) []else bif ieq k 5 then K (.bool (ieq y 0)) []else K (.bool false) []else K (.bool false) []) (by kernel_rfl) ?_)
 have hb: ∀v:Bool,aY s k y=v→K (.bool v) []:=by intro v h;rw [←h];exact hK
 have yes:=(eD (s:=s) (k:=k) (y:=y)).2
 have no: ¬((((s=1∨s=2)∧1≤k∧k≤3)∨((s=3∨s=4)∧(k=4∨k=5)))∧0≤y∧y≤999∧(k=5→y≤0))→aY s k y=false:=by
  intro h
  cases e:aY s k y with
  | false=>rfl
  | true=>exact(h (eD.1 e)).elim
 have hle: ∀a b:Int,K (.bool (ile a b)) []∨ ¬K (.bool (ile a b)) []:=fun _ _=>Classical.em _
 repeat' first
  | refine xG (fun _=>?_) (fun _=>?_)
  | refine xE (fun _=>?_) (fun _=>?_)
  | refine HE (fun _=>?_) (fun _=>?_)
 all_goals first
  | exact hb _ (no (by omega))
  | exact hb _ (yes (by omega))
  | (rw [cG];by_cases c:k≤3
     ·rw [decide_eq_true c];exact hb _ (yes (by omega))
     ·rw [decide_eq_false c];exact hb _ (no (by omega)))
  | (rw [bI];by_cases c:y=0
     ·subst c;exact hb _ (yes (by omega))
     ·have c':(y == 0)=false:=by simpa using c
      rw [c'];exact hb _ (no (by omega)))
noncomputable def E22a:=((E21.addR 171 P6 VB)).addR 16 Z6 Z7
def iD(x:Int):Bool:=ilt x 65536&&aY (aA x 0 3) (aA x 3 3) (aA x 6 10)
theorem yO{z:Int}(w:Nat)(hw:w≤61){c:Int}(hc:c=2^w - 1):IntKind.wrap .i64 (IntKind.wrap .u64 ((BitVec.ofInt 64 z&&&BitVec.ofInt 64 c).toNat :Int))=z%2^w:=by
 subst hc
 rw [i9 _ (by omega)]
 have h4:=iW w
 have h3:(2:Int)^w≤2305843009213693952:=AB (n:=61) hw (by decide)
 have h6:=Int.emod_nonneg z (b:=2^w) (by omega)
 have h7:=Int.emod_lt_of_pos z (b:=2^w) (by omega)
 rw [i8 (by omega),cT (by omega)]
def P2:bL Ob:=fun args h=>match args,h with
 | [.int .u64 x],[]=>some (0≤x∧x≤18446744073709551615,.tup [.agg [.int .i64 (bif iD x then aA x 0 3 else 0),.int .i64 (bif iD x then aA x 3 3 else 0),.int .i64 (bif iD x then aA x 6 10 else 0)],.int .i64 (bif iD x then 0 else 3)])
 | _,_=>none
theorem U8:aJ.ok E22a.I Tryz.prog 173 P2.spec:=by
 intro args h o ho K hK
 unfold bL.spec at ho
 split at ho
 case h_2=>cases ho
 rename_i pp vv hv
 unfold P2 at hv
 split at hv
 case h_2=>cases hv
 rename_i x
 simp only [sI',pI']at hv
 obtain⟨rfl,rfl⟩:=hv
 simp only [sI']at ho;subst ho
 obtain⟨hp,hK⟩:=hK
 have hK:K (.tup [.agg [.int .i64 (bif iD x then aA x 0 3 else 0),.int .i64 (bif iD x then aA x 3 3 else 0),.int .i64 (bif iD x then aA x 6 10 else 0)],.int .i64 (bif iD x then 0 else 3)]) []:=hK
 refine aC8 (cM' (E:=E22a) (q:=(0:Int)≤(3:Int)∧(0:Int)≤(6:Int)∧(0:Int)≤(16:Int)∧bif !ieq (Int.fdiv x (2^min (Int.toNat 16) (IntKind.bits .u64))) 0 then K (.tup [.agg [.int .i64 0,.int .i64 0,.int .i64 0],.int .i64 3]) []else True∧bif !aY (W (WU (↑(BitVec.toNat (BitVec.ofInt (IntKind.bits .u64) x&&&BitVec.ofInt (IntKind.bits .u64) 7)):Int))) (W (WU (↑(BitVec.toNat (BitVec.ofInt (IntKind.bits .u64) (Int.fdiv x (2^min (Int.toNat 3) (IntKind.bits .u64)))&&&BitVec.ofInt (IntKind.bits .u64) 7)):Int))) (W (WU (↑(BitVec.toNat (BitVec.ofInt (IntKind.bits .u64) (Int.fdiv x (2^min (Int.toNat 6) (IntKind.bits .u64)))&&&BitVec.ofInt (IntKind.bits .u64) 1023)):Int)))then K (.tup [.agg [.int .i64 0,.int .i64 0,.int .i64 0],.int .i64 3]) []else K (.tup [.agg [.int .i64 (W (WU (↑(BitVec.toNat (BitVec.ofInt (IntKind.bits .u64) x&&&BitVec.ofInt (IntKind.bits .u64) 7)):Int))),.int .i64 (W (WU (↑(BitVec.toNat (BitVec.ofInt (IntKind.bits .u64) (Int.fdiv x (2^min (Int.toNat 3) (IntKind.bits .u64)))&&&BitVec.ofInt (IntKind.bits .u64) 7)):Int))),.int .i64 (W (WU (↑(BitVec.toNat (BitVec.ofInt (IntKind.bits .u64) (Int.fdiv x (2^min (Int.toNat 6) (IntKind.bits .u64)))&&&BitVec.ofInt (IntKind.bits .u64) 1023)):Int)))],.int .i64 0]) []) (by kernel_rfl) ?_)
 have hb:IntKind.bits .u64 =64:=rfl
 have p3:(2:Int)^min (Int.toNat 3) 64=8:=by decide
 have p6:(2:Int)^min (Int.toNat 6) 64=64:=by decide
 have p16:(2:Int)^min (Int.toNat 16) 64=65536:=by decide
 have c0:aA x 0 3=x%2^3:=by unfold aA;show x / 1%8=x%8;omega
 have c1:aA x 3 3=Int.fdiv x 8%2^3:=by rw [Int.fdiv_eq_ediv_of_nonneg _ (by omega)];rfl
 have c2:aA x 6 10=Int.fdiv x 64%2^10:=by rw [Int.fdiv_eq_ediv_of_nonneg _ (by omega)];rfl
 rw [hb,p3,p6,p16]
 simp only [W,WU]
 rw [yO (z:=x) 3 (by omega) (c:=7) (by decide),yO (z:=Int.fdiv x 8) 3 (by omega) (c:=7) (by decide),yO (z:=Int.fdiv x 64) 10 (by omega) (c:=1023) (by decide),←c0,←c1,←c2]
 unfold iD at hK
 have e16:ieq (Int.fdiv x 65536) 0=ilt x 65536:=by
  rw [Int.fdiv_eq_ediv_of_nonneg _ (by omega),bI,bU]
  by_cases h:x<65536
  ·rw [decide_eq_true h];simp;omega
  ·rw [decide_eq_false h];simp;omega
 rw [e16]
 generalize ilt x 65536=b1 at hK⊢
 generalize aY (aA x 0 3) (aA x 3 3) (aA x 6 10)=b2 at hK⊢
 refine⟨by omega,by omega,by omega,?_⟩
 cases b1<;>cases b2<;>first | exact hK | exact⟨trivial,hK⟩
noncomputable def E22b:=(E22a.addR 173 P2 U8)
def recNewS:aJ Ob:=fun args h=>match args,h with
 | [.agg [.int .i64 t,.int .i64 n],.int .i64 me,.agg [.int .i64 s,.int .i64 k,.int .i64 y]],[]=>some (.ret (.ptr 0 0) [some (.cells [.int .i64 t,.int .i64 n,.int .u64 0,.int .i64 me,.int .i64 0,.int .u64 (bif aY s k y then tskV s k y else 0),.bool (!aY s k y),.int .u64 0])])
 | _,_=>none
theorem LG:aJ.ok E22b.I Tryz.prog 104 recNewS:=by
 intro args h o ho K hK
 unfold recNewS at ho
 split at ho<;>cases ho
 rename_i t n me s k y
 have hK:K (.ptr 0 0) [some (.cells [.int .i64 t,.int .i64 n,.int .u64 0,.int .i64 me,.int .i64 0,.int .u64 (bif aY s k y then tskV s k y else 0),.bool (!aY s k y),.int .u64 0])]:=hK
 refine aC8 (cM' (E:=E22b) (q:=True∧K (.ptr 0 0) [some (.cells [.int .i64 t,.int .i64 n,.int .u64 0,.int .i64 me,.int .i64 0,.int .u64 (bif aY s k y then tskV s k y else 0),.bool !ieq (bif aY s k y then 0 else 1) 0,.int .u64 0])]) (by kernel_rfl) ?_)
 generalize aY s k y=b at hK⊢
 refine⟨trivial,?_⟩
 cases b<;>exact hK
noncomputable def E22:=(E22b.addS 104 recNewS LG)
noncomputable def E23:=E22
noncomputable def E24:=(((((E23)))))
def guardNewS:aJ Ob:=fun args h=>match args,h with
 | [.agg [.int .i64 t,.int .i64 n],.slice 0 0 k 1],[some (.ints (some .i64) xs)]=>some (.pre (k=xs.length∧k≤1000000) (.ret (.ptr 1 0) [some (.ints (some .i64) xs),some (.cells [.int .i64 t,.int .i64 n,.raw (.slice none 0 0),.raw (.slice none 0 0),.slice 2 0 xs.length 1,.map 3,.int .i64 0,.raw (.pointer none)]),some (.ints (some .i64) xs),some (.imap .i64 none [])]))
 | _,_=>none
theorem CA:aJ.ok E24.I Tryz.prog 222 guardNewS:=by
 intro args h o ho K hK
 unfold guardNewS at ho
 split at ho<;>cases ho
 rename_i t n k xs
 obtain⟨⟨rfl,hp⟩,hK⟩:=hK
 refine aC8 (cM' (E:=E24) (q:=((lE' xs∧List.length xs≤(4294967296:Nat))∧True)∧K (.ptr 1 0) [some (.ints (some .i64) xs),some (.cells [.int .i64 t,.int .i64 n,.raw (Value.slice none 0 0),.raw (Value.slice none 0 0),.slice 2 0 (List.length xs) 1,.map 3,.int .i64 0,.raw (Value.pointer none)]),some (.ints (some .i64) xs),some (.imap .i64 none [])]) (by kernel_rfl) ?_)
 exact⟨⟨⟨rfl,by omega⟩,trivial⟩,hK⟩
def backS:aJ Ob:=fun args h=>match args,h with
 | [.agg [.int .i64 t,.int .i64 n],.slice 0 0 k 1],[some (.ints (some .i64) xs)]=>some (.pre (k=xs.length∧k≤1000000) (.ret (.ptr 1 0) [some (.ints (some .i64) xs),some (.cells [.int .i64 t,.int .i64 n,.slice 2 0 xs.length 1]),some (.ints (some .i64) xs)]))
 | _,_=>none
theorem Q7:aJ.ok E24.I Tryz.prog 232 backS:=by
 intro args h o ho K hK
 unfold backS at ho
 split at ho<;>cases ho
 rename_i t n k xs
 obtain⟨⟨rfl,hp⟩,hK⟩:=hK
 refine aC8 (cM' (E:=E24) (q:=((lE' xs∧List.length xs≤(4294967296:Nat))∧True)∧K (.ptr 1 0) [some (.ints (some .i64) xs),some (.cells [.int .i64 t,.int .i64 n,.slice 2 0 (List.length xs) 1]),some (.ints (some .i64) xs)]) (by kernel_rfl) ?_)
 exact⟨⟨⟨rfl,by omega⟩,trivial⟩,hK⟩
noncomputable def E35a:=(E24.addS 222 guardNewS CA).addS 232 backS Q7
def mhas(m:List (Int×Int))(n:Int):Bool:=!ieq (Option.getD (mget m n) 0) 0
def cI(m:List (Int×Int))(xs:List Int):List Int:=xs.filter (mhas m)
def aV(m:List (Int×Int))(xs:List Int):List Int:=xs.filter (fun n=>!mhas m n)
structure aBP (m:List (Int×Int)) (xs:List Int) (x:Nat×List Int×List Int):Prop where
 h1:x.1≤xs.length
 h2:x.2.1=cI m (xs.take x.1)
 h3:x.2.2=aV m (xs.take x.1)
def DH(t n at':Int)(m:List (Int×Int))(xs:List Int):Hint Ob:= {X:=Nat×List Int×List Int,st:=fun x=>([.ptr 0 0,.O,.O,.O,.O,.O,.O,.O,.slice 1 0 xs.length 1,.int .i64 (xs.length:Int),.int .i64 (x.1:Int)]++List.replicate 48 .O,[some (.cells [.int .i64 t,.int .i64 n,.slice 3 0 x.2.1.length 1,.slice 4 0 x.2.2.length 1,.slice 1 0 xs.length 1,.map 2,.int .i64 at',.raw (.pointer none)]),some (.ints (some .i64) xs),some (.imap .i64 none m),some (.ints (some .i64) x.2.1),some (.ints (some .i64) x.2.2)]),ok:=aBP m xs,mu:=fun x=>xs.length - x.1,keep:=[0,8,9,10],casts:=[(.cell 0 2,.ints (some .i64)),(.cell 0 3,.ints (some .i64))] }
def partsS:aJ Ob:=fun args h=>match args,h with
 | [.ptr 0 0],[some (.cells [.int .i64 t,.int .i64 n,.raw (.slice none 0 0),.raw (.slice none 0 0),.slice 1 0 k 1,.map 2,.int .i64 at',.raw (.pointer none)]),some (.ints (some .i64) xs),some (.imap .i64 none m)]=>some (.pre (k=xs.length∧k≤1000000) (.ret (.bool (ieq ((aV m xs).length :Int) 0)) [some (.cells [.int .i64 t,.int .i64 n,.slice 3 0 (cI m xs).length 1,.slice 4 0 (aV m xs).length 1,.slice 1 0 xs.length 1,.map 2,.int .i64 at',.ptr 5 0]),some (.ints (some .i64) xs),some (.imap .i64 none m),some (.ints (some .i64) (cI m xs)),some (.ints (some .i64) (aV m xs)),some (.cells [.int .i64 t,.int .i64 n,.slice 6 0 (aV m xs).length 1]),some (.ints (some .i64) (aV m xs))]))
 | _,_=>none
theorem uJ(p:Int→Bool)(xs:List Int):(xs.filter p).length ≤xs.length:=List.length_filter_le p xs
theorem OW:aJ.ok E35a.I Tryz.prog 228 partsS:=by
 intro args h o ho K hK
 unfold partsS at ho
 split at ho<;>cases ho
 rename_i t n k at' xs m
 obtain⟨⟨rfl,hp⟩,hK⟩:=hK
 refine aC8 (aE (E:=E35a) Tryz.checked.mixed (L:=fun _ _=>some (.states (DH t n at' m xs))) (n:=10) (aN (q:=dT (DH t n at' m xs) (Hint.ok (DH t n at' m xs)) [.ptr 0 0,.O,.O,.O,.O,.O,.O,.O,.slice 1 0 (List.length xs) 1,.int .i64 (↑(List.length xs):Int),.int .i64 0,.O,.O,.O,.O,.O,.O,.O,.O,.O,.O,.O,.O,.O,.O,.O,.O,.O,.O,.O,.O,.O,.O,.O,.O,.O,.O,.O,.O,.O,.O,.O,.O,.O,.O,.O,.O,.O,.O,.O,.O,.O,.O,.O,.O,.O,.O,.O,.O] [some (.cells [.int .i64 t,.int .i64 n,.slice 3 0 0 1,.slice 4 0 0 1,.slice 1 0 (List.length xs) 1,.map 2,.int .i64 at',.raw (Value.pointer none)]),some (.ints (some .i64) xs),some (.imap .i64 none m),some (.ints (some .i64) []),some (.ints (some .i64) [])]∧ ∀(x:(Nat×List Int×List Int)),aBP m xs x→bif ilt (↑x.1:Int) (↑(List.length xs):Int)then((0:Int)≤(↑x.1:Int)∧(↑x.1:Int)<(↑(List.length xs):Int))∧0+Int.toNat (↑x.1:Int)*(1:Nat)<List.length xs∧bif !ieq (Option.getD (mget m (List.getD xs (0+Int.toNat (↑x.1:Int)*1) 0)) 0) 0 then(0=0∧lE' (Prod.snd x).1∧1=1∧List.length (Prod.snd x).1+(1:Nat)≤(4294967296:Nat))∧dT (DH t n at' m xs) (fun x'=>Hint.ok (DH t n at' m xs) x'∧Hint.mu (DH t n at' m xs) x'<Hint.mu (DH t n at' m xs) x) [.ptr 0 0,.O,.O,.O,.O,.O,.O,.O,.slice 1 0 (List.length xs) 1,.int .i64 (↑(List.length xs):Int),.int .i64 (W ((↑x.1:Int)+1)),.O,.O,.O,.O,.O,.O,.O,.O,.O,.O,.O,.O,.O,.O,.O,.O,.O,.O,.O,.O,.O,.O,.O,.O,.O,.O,.O,.O,.O,.O,.O,.O,.O,.O,.O,.O,.O,.O,.O,.O,.O,.O,.O,.O,.O,.O,.O,.O] [some (.cells [.int .i64 t,.int .i64 n,.slice 3 0 (List.length (Prod.snd x).1+1) 1,.slice 4 0 (List.length (Prod.snd x).2) 1,.slice 1 0 (List.length xs) 1,.map 2,.int .i64 at',.raw (Value.pointer none)]),some (.ints (some .i64) xs),some (.imap .i64 none m),some (.ints (some .i64) ((Prod.snd x).1++ [List.getD xs (0+Int.toNat (↑x.1:Int)*1) 0])),some (.ints (some .i64) (Prod.snd x).2)]else(0=0∧lE' (Prod.snd x).2∧1=1∧List.length (Prod.snd x).2+(1:Nat)≤(4294967296:Nat))∧dT (DH t n at' m xs) (fun x'=>Hint.ok (DH t n at' m xs) x'∧Hint.mu (DH t n at' m xs) x'<Hint.mu (DH t n at' m xs) x) [.ptr 0 0,.O,.O,.O,.O,.O,.O,.O,.slice 1 0 (List.length xs) 1,.int .i64 (↑(List.length xs):Int),.int .i64 (W ((↑x.1:Int)+1)),.O,.O,.O,.O,.O,.O,.O,.O,.O,.O,.O,.O,.O,.O,.O,.O,.O,.O,.O,.O,.O,.O,.O,.O,.O,.O,.O,.O,.O,.O,.O,.O,.O,.O,.O,.O,.O,.O,.O,.O,.O,.O,.O,.O,.O,.O,.O,.O] [some (.cells [.int .i64 t,.int .i64 n,.slice 3 0 (List.length (Prod.snd x).1) 1,.slice 4 0 (List.length (Prod.snd x).2+1) 1,.slice 1 0 (List.length xs) 1,.map 2,.int .i64 at',.raw (Value.pointer none)]),some (.ints (some .i64) xs),some (.imap .i64 none m),some (.ints (some .i64) (Prod.snd x).1),some (.ints (some .i64) ((Prod.snd x).2++ [List.getD xs (0+Int.toNat (↑x.1:Int)*1) 0]))]else((lE' (Prod.snd x).2∧List.length (Prod.snd x).2≤(1000000:Nat))∧True)∧K (.bool (ieq (↑(List.length (Prod.snd x).2):Int) 0)) [some (.cells [.int .i64 t,.int .i64 n,.slice 3 0 (List.length (Prod.snd x).1) 1,.slice 4 0 (List.length (Prod.snd x).2) 1,.slice 1 0 (List.length xs) 1,.map 2,.int .i64 at',.ptr 5 0]),some (.ints (some .i64) xs),some (.imap .i64 none m),some (.ints (some .i64) (Prod.snd x).1),some (.ints (some .i64) (Prod.snd x).2),some (.cells [.int .i64 t,.int .i64 n,.slice 6 0 (List.length (Prod.snd x).2) 1]),some (.ints (some .i64) (Prod.snd x).2)]) (by kernel_rfl) ?_))
 refine⟨bF (H:=DH t n at' m xs) ((0:Nat),([]:List Int),([]:List Int)) rfl ⟨Nat.zero_le _,rfl,rfl⟩,?_⟩
 rintro⟨i,ks,fs⟩ ⟨h1,h2,h3⟩
 dsimp only at h1 h2 h3⊢
 refine xG (fun hi=>?_) (fun hi=>?_)
 ·have hi':i<xs.length:=by omega
  have e2:0+(i:Int).toNat *1=i:=by omega
  have hg:xs.getD i 0=xs[i]:=by rw [gD',gE' hi'];rfl
  have e4:W ((i:Int)+1)=((i+1:Nat):Int):=by rw [yC (by omega)];rfl
  have hk:cI m (xs.take (i+1))=ks++(bif mhas m xs[i]then [xs[i]]else []):=by
   rw [h2];unfold cI;rw [List.take_succ_eq_append_getElem hi',List.filter_append]
   cases hm:mhas m xs[i]<;>simp [hm]
  have hf:aV m (xs.take (i+1))=fs++(bif mhas m xs[i]then []else [xs[i]]):=by
   rw [h3];unfold aV;rw [List.take_succ_eq_append_getElem hi',List.filter_append]
   cases hm:mhas m xs[i]<;>simp [hm]
  have hkl:ks.length≤xs.length:=by rw [h2];exact Nat.le_trans (uJ _ _) (by simp;omega)
  have hfl:fs.length≤xs.length:=by rw [h3];exact Nat.le_trans (uJ _ _) (by simp;omega)
  have hmu:xs.length - (i+1)<xs.length - i:=by omega
  rw [e2,e4,hg]
  have hd:(!ieq (Option.getD (mget m xs[i]) 0) 0)=mhas m xs[i]:=rfl
  rw [hd]
  refine⟨by omega,by omega,aW (fun hm=>⟨⟨rfl,rfl,rfl,by omega⟩,?_⟩) (fun hm=>⟨⟨rfl,rfl,rfl,by omega⟩,?_⟩)⟩
  ·rw [hm]at hk hf
   simp only [cond_true,List.append_nil]at hk hf
   exact bF (H:=DH t n at' m xs) ((i+1:Nat),ks++ [xs[i]],fs) (by simp only [DH,List.length_append]<;>rfl) ⟨⟨hi',hk.symm,hf.symm⟩,hmu⟩
  ·rw [hm]at hk hf
   simp only [cond_false,List.append_nil]at hk hf
   exact bF (H:=DH t n at' m xs) ((i+1:Nat),ks,fs++ [xs[i]]) (by simp only [DH,List.length_append]<;>rfl) ⟨⟨hi',hk.symm,hf.symm⟩,hmu⟩
 ·rw [List.take_of_length_le (by omega)]at h2 h3
  subst h2 h3
  have:=uJ (fun n=>!mhas m n) xs
  refine⟨⟨⟨rfl,?_⟩,trivial⟩,hK⟩
  show(aV m xs).length ≤1000000
  unfold aV
  omega
noncomputable def E35:=E35a.addS 228 partsS OW
def swA(t n me sp:Int)(R:List Int)(s:MS):aD Ob:=[some (.cells [.ptr 1 0,.raw (.pointer none)]),some (.cells [.int .i64 t,.int .i64 n,.int .i64 me,.int .i64 sp,.slice 2 0 R.length 1]),some (.ints (some .i64) R),some (.cells [.int .i64 s.t,.int .i64 s.n,.slice 4 0 s.xs.length 1,.int .i64 s.c,.int .i64 s.k,.int .i64 s.a,.int .u64 s.o,.int .u64 s.w,.bool s.ok]),some (.ints (some .u64) s.xs)]
def aBU(t n me sp:Int)(R:List Int)(s:MS)(m:List (Int×Int))(i:Int):aD Ob:=[some (.cells [.ptr 1 0,.ptr 5 0]),some (.cells [.int .i64 t,.int .i64 n,.int .i64 me,.int .i64 sp,.slice 2 0 R.length 1]),some (.ints (some .i64) R),some (.cells [.int .i64 s.t,.int .i64 s.n,.slice 4 0 s.xs.length 1,.int .i64 s.c,.int .i64 s.k,.int .i64 s.a,.int .u64 s.o,.int .u64 s.w,.bool s.ok]),some (.ints (some .u64) s.xs),some (.cells [.int .i64 t,.int .i64 n,.raw (.slice none 0 0),.raw (.slice none 0 0),.slice 6 0 R.length 1,.map 7,.int .i64 i,.raw (.pointer none)]),some (.ints (some .i64) R),some (.imap .i64 none m)]
def swB(t n me sp:Int)(R N:List Int)(s:MS)(m:List (Int×Int))(i:Int):aD Ob:=[some (.cells [.ptr 1 0,.ptr 3 0]),some (.cells [.int .i64 t,.int .i64 n,.int .i64 me,.int .i64 sp,.slice 2 0 R.length 1]),some (.ints (some .i64) R),some (.cells [.int .i64 t,.int .i64 n,.raw (.slice none 0 0),.raw (.slice none 0 0),.slice 4 0 N.length 1,.map 5,.int .i64 i,.raw (.pointer none)]),some (.ints (some .i64) N),some (.imap .i64 none m),some (.cells [.int .i64 s.t,.int .i64 s.n,.slice 7 0 s.xs.length 1,.int .i64 s.c,.int .i64 s.k,.int .i64 s.a,.int .u64 s.o,.int .u64 s.w,.bool s.ok]),some (.ints (some .u64) s.xs)]
def UY(t n me sp:Int)(st:AVal)(R N ks fs:List Int)(s:MS)(m:List (Int×Int))(i:Int):aD Ob:=[some (.cells [.ptr 1 0,.ptr 3 0]),some (.cells [.int .i64 t,.int .i64 n,.int .i64 me,.int .i64 sp,st]),some (.ints (some .i64) R),some (.cells [.int .i64 t,.int .i64 n,.slice 8 0 ks.length 1,.slice 9 0 fs.length 1,.slice 4 0 N.length 1,.map 5,.int .i64 i,.ptr 10 0]),some (.ints (some .i64) N),some (.imap .i64 none m),some (.cells [.int .i64 s.t,.int .i64 s.n,.slice 7 0 s.xs.length 1,.int .i64 s.c,.int .i64 s.k,.int .i64 s.a,.int .u64 s.o,.int .u64 s.w,.bool s.ok]),some (.ints (some .u64) s.xs),some (.ints (some .i64) ks),some (.ints (some .i64) fs),some (.cells [.int .i64 t,.int .i64 n,.slice 11 0 fs.length 1]),some (.ints (some .i64) fs)]
def swC(t n me sp:Int)(st:AVal)(R N ks fs gs:List Int)(s:MS)(m:List (Int×Int))(i:Int)(j l:Nat):aD Ob:=[some (.cells [.ptr 1 0,.ptr 3 0]),some (.cells [.int .i64 t,.int .i64 n,.int .i64 me,.int .i64 sp,st]),some (.ints (some .i64) R),some (.cells [.int .i64 t,.int .i64 n,.slice 4 0 ks.length 1,.slice 5 0 fs.length 1,.slice 6 0 N.length 1,.map 7,.int .i64 i,.ptr 8 0]),some (.ints (some .i64) ks),some (.ints (some .i64) fs),some (.ints (some .i64) N),some (.imap .i64 none m),some (.cells [.int .i64 t,.int .i64 n,.slice 9 j l 1]),some (.ints (some .i64) gs),some (.cells [.int .i64 s.t,.int .i64 s.n,.slice 11 0 s.xs.length 1,.int .i64 s.c,.int .i64 s.k,.int .i64 s.a,.int .u64 s.o,.int .u64 s.w,.bool s.ok]),some (.ints (some .u64) s.xs)]
def cW(w:Nat)(h:aD Ob):Option (Nat×MS):=match h with
 | [some (.cells [.int .i64 t,.int .i64 n,.slice l 0 len 1,.int .i64 c,.int .i64 k,.int .i64 a,.int .u64 o,.int .u64 v,.bool ok]),some (.ints (some .u64) xs)]=>if l=w then some (len,⟨t,n,xs,c,k,a,o,v,ok⟩)else none
 | _=>none
theorem bA{w:Nat}{h:aD Ob}{l:Nat}{s:MS}(e:cW w h=some (l,s))(hl:l=s.xs.length):h=[some (.cells [.int .i64 s.t,.int .i64 s.n,.slice w 0 s.xs.length 1,.int .i64 s.c,.int .i64 s.k,.int .i64 s.a,.int .u64 s.o,.int .u64 s.w,.bool s.ok]),some (.ints (some .u64) s.xs)]:=by
 unfold cW at e
 split at e
 ·split at e
  ·rename_i hw
   simp only [sI',pI']at e
   obtain⟨rfl,rfl⟩:=e
   subst hw
   simp only at hl;subst hl;rfl
  ·cases e
 ·cases e
def bG(n i:Int):Int:=2*n+5+2*0+i
def aT(m:List (Int×Int))(n i:Int)(s:MS):List (Int×Int):=dI m (W (aB s.xs (bG n i))) 1
def bV(n:Int)(gs:List Int)(j:Nat):Int:=n+4+List.getD gs (j+Int.toNat 0*1) 0
noncomputable def swS1:aJ Ob:=fun args h=>match args,h with
 | [.ptr 0 0,.ptr 3 0],[some (.cells [.ptr 1 0,.raw (.pointer none)]),some (.cells [.int .i64 t,.int .i64 n,.int .i64 me,.int .i64 sp,.slice 2 0 k 1]),some (.ints (some .i64) R),e1,e2]=>(match cW 4 [e1,e2]with
   | some (l,s)=>some (.pre ((l=s.xs.length∧k=R.length)∧(1≤t∧t≤1000)∧(1≤n∧n≤1000)∧(0≤s.c∧s.c≤1000000)∧R.length≤1000000) (.ret (.bool false) (aBU t n me sp R (s.loadd (bG n 0)) (aT [] n 0 s) 1)))
   | none=>none)
 | _,_=>none
noncomputable def swS2:aJ Ob:=fun args h=>match args,h with
 | [.ptr 0 0,.ptr 6 0],[some (.cells [.ptr 1 0,.ptr 3 0]),some (.cells [.int .i64 t,.int .i64 n,.int .i64 me,.int .i64 sp,.slice 2 0 k 1]),some (.ints (some .i64) R),some (.cells [.int .i64 t',.int .i64 n',.raw (.slice none 0 0),.raw (.slice none 0 0),.slice 4 0 k' 1,.map 5,.int .i64 i,.raw (.pointer none)]),some (.ints (some .i64) N),some (.imap .i64 none m),e1,e2]=>(match cW 7 [e1,e2]with
   | some (l,s)=>some (.pre ((l=s.xs.length∧k=R.length∧k'=N.length∧t'=t∧n'=n)∧(1≤t∧t≤1000)∧(1≤n∧n≤1000)∧(0≤s.c∧s.c≤1000000)∧N.length≤1000000∧(0≤i∧i<2*t)) (.ite (ieq (i+1) (2*t))
      (.ite (ieq ((aV (aT m n i s) N).length :Int) 0) (.ret (.bool true) (UY t n me sp (.slice 8 0 (cI (aT m n i s) N).length 1) R N (cI (aT m n i s) N) (aV (aT m n i s) N) (s.loadd (bG n i)) (aT m n i s) (i+1)))
        (.ret (.bool false) (UY t n me sp (.slice 2 0 R.length 1) R N (cI (aT m n i s) N) (aV (aT m n i s) N) (s.loadd (bG n i)) (aT m n i s) (i+1))))
      (.ret (.bool false) (swB t n me sp R N (s.loadd (bG n i)) (aT m n i s) (i+1)))))
   | none=>none)
 | _,_=>none
noncomputable def swS3:aJ Ob:=fun args h=>match args,h with
 | [.ptr 0 0,.ptr 10 0],[some (.cells [.ptr 1 0,.ptr 3 0]),some (.cells [.int .i64 t,.int .i64 n,.int .i64 me,.int .i64 sp,.slice 2 0 k 1]),some (.ints (some .i64) R),some (.cells [.int .i64 t',.int .i64 n',.slice 4 0 k1 1,.slice 5 0 k2 1,.slice 6 0 k3 1,.map 7,.int .i64 i,.ptr 8 0]),some (.ints (some .i64) ks),some (.ints (some .i64) fs),some (.ints (some .i64) N),some (.imap .i64 none m),some (.cells [.int .i64 t'',.int .i64 n'',.slice 9 j l' 1]),some (.ints (some .i64) gs),e1,e2]=>(match cW 11 [e1,e2]with
   | some (l,s)=>some (.pre ((l=s.xs.length∧k=R.length∧k1=ks.length∧k2=fs.length∧k3=N.length∧t'=t∧n'=n∧t''=t∧n''=n)∧(1≤t∧t≤1000)∧(1≤n∧n≤1000)∧(0≤s.c∧s.c≤1000000)∧2*t≤i∧(1≤l'∧gs.length=j+l')∧(-1000000≤List.getD gs (j+Int.toNat 0*1) 0∧List.getD gs (j+Int.toNat 0*1) 0≤1000000)) (.ite (ieq ((l' - 1:Nat):Int) 0)
      (.ret (.bool true) (swC t n me sp (.slice 4 0 ks.length 1) R N ks fs gs (s.added (bV n gs j) 1) m i (j+1) (l' - 1)))
      (.ret (.bool false) (swC t n me sp (.slice 2 0 R.length 1) R N ks fs gs (s.added (bV n gs j) 1) m i (j+1) (l' - 1)))))
   | none=>none)
 | _,_=>none
noncomputable def swStepS:aJ Ob:=fun args h=>match swS1 args h with
 | some o=>some o
 | none=>match swS2 args h with
   | some o=>some o
   | none=>swS3 args h
theorem aAq(t n me sp:Int)(R:List Int)(s:MS)(K:AVal→aD Ob→Prop)(ht:1≤t∧t≤1000)(hn:1≤n∧n≤1000)(hc:0≤s.c∧s.c≤1000000)(hR:R.length≤1000000)(hK:K (.bool false) (aBU t n me sp R (s.loadd (bG n 0)) (aT [] n 0 s) 1)):aC E35.I Tryz.prog 195 [.ptr 0 0,.ptr 3 0] (swA t n me sp R s) K:=by
 refine aC8 (cM' (E:=E35) (q:=((lE' R∧List.length R≤(1000000:Nat))∧True)∧((((0:Int)≤t∧t≤(100000:Int))∧(0:Int)≤n∧n≤(100000:Int))∧True)∧bif ile (2*t) 0 then False else((((0:Int)≤t∧t≤(100000:Int))∧((0:Int)≤n∧n≤(100000:Int))∧((-1099511627776:Int)≤(0:Int)∧(0:Int)≤(1099511627776:Int))∧(-1099511627776:Int)≤(0:Int)∧(0:Int)≤(1099511627776:Int))∧True)∧((lE' s.3∧(0:Int)≤s.4∧s.4≤(4611686018427387904:Int))∧True)∧((((0:Int)≤t∧t≤(100000:Int))∧(0:Int)≤n∧n≤(100000:Int))∧True)∧bif ieq (W (0+1)) (2*t)then((lE' R∧List.length R≤(1000000:Nat))∧True)∧bif !ieq (↑(List.length (aV (dI [] (W (aB s.3 (2*n+5+2*0+0))) 1) R)):Int) 0 then K (.bool false) [some (.cells [.ptr 1 0,.ptr 5 0]),some (.cells [.int .i64 t,.int .i64 n,.int .i64 me,.int .i64 sp,.slice 2 0 (List.length R) 1]),some (.ints (some .i64) R),some (.cells [.int .i64 s.1,.int .i64 s.2,.slice 4 0 (List.length s.3) 1,.int .i64 (s.4+1),.int .i64 1,.int .i64 (2*n+5+2*0+0),.int .u64 (aB s.3 (2*n+5+2*0+0)),.int .u64 (aB s.3 (2*n+5+2*0+0)),.bool (bM s.3 (2*n+5+2*0+0))]),some (.ints (some .u64) s.3),some (.cells [.int .i64 t,.int .i64 n,.slice 6 0 (List.length (cI (dI [] (W (aB s.3 (2*n+5+2*0+0))) 1) R)) 1,.slice 7 0 (List.length (aV (dI [] (W (aB s.3 (2*n+5+2*0+0))) 1) R)) 1,.slice 8 0 (List.length R) 1,.map 9,.int .i64 (W (0+1)),.ptr 10 0]),some (.ints (some .i64) (cI (dI [] (W (aB s.3 (2*n+5+2*0+0))) 1) R)),some (.ints (some .i64) (aV (dI [] (W (aB s.3 (2*n+5+2*0+0))) 1) R)),some (.ints (some .i64) R),some (.imap .i64 none (dI [] (W (aB s.3 (2*n+5+2*0+0))) 1)),some (.cells [.int .i64 t,.int .i64 n,.slice 11 0 (List.length (aV (dI [] (W (aB s.3 (2*n+5+2*0+0))) 1) R)) 1]),some (.ints (some .i64) (aV (dI [] (W (aB s.3 (2*n+5+2*0+0))) 1) R))]else K (.bool true) [some (.cells [.ptr 1 0,.ptr 5 0]),some (.cells [.int .i64 t,.int .i64 n,.int .i64 me,.int .i64 sp,.slice 6 0 (List.length (cI (dI [] (W (aB s.3 (2*n+5+2*0+0))) 1) R)) 1]),some (.ints (some .i64) R),some (.cells [.int .i64 s.1,.int .i64 s.2,.slice 4 0 (List.length s.3) 1,.int .i64 (s.4+1),.int .i64 1,.int .i64 (2*n+5+2*0+0),.int .u64 (aB s.3 (2*n+5+2*0+0)),.int .u64 (aB s.3 (2*n+5+2*0+0)),.bool (bM s.3 (2*n+5+2*0+0))]),some (.ints (some .u64) s.3),some (.cells [.int .i64 t,.int .i64 n,.slice 6 0 (List.length (cI (dI [] (W (aB s.3 (2*n+5+2*0+0))) 1) R)) 1,.slice 7 0 (List.length (aV (dI [] (W (aB s.3 (2*n+5+2*0+0))) 1) R)) 1,.slice 8 0 (List.length R) 1,.map 9,.int .i64 (W (0+1)),.ptr 10 0]),some (.ints (some .i64) (cI (dI [] (W (aB s.3 (2*n+5+2*0+0))) 1) R)),some (.ints (some .i64) (aV (dI [] (W (aB s.3 (2*n+5+2*0+0))) 1) R)),some (.ints (some .i64) R),some (.imap .i64 none (dI [] (W (aB s.3 (2*n+5+2*0+0))) 1)),some (.cells [.int .i64 t,.int .i64 n,.slice 11 0 (List.length (aV (dI [] (W (aB s.3 (2*n+5+2*0+0))) 1) R)) 1]),some (.ints (some .i64) (aV (dI [] (W (aB s.3 (2*n+5+2*0+0))) 1) R))]else K (.bool false) [some (.cells [.ptr 1 0,.ptr 5 0]),some (.cells [.int .i64 t,.int .i64 n,.int .i64 me,.int .i64 sp,.slice 2 0 (List.length R) 1]),some (.ints (some .i64) R),some (.cells [.int .i64 s.1,.int .i64 s.2,.slice 4 0 (List.length s.3) 1,.int .i64 (s.4+1),.int .i64 1,.int .i64 (2*n+5+2*0+0),.int .u64 (aB s.3 (2*n+5+2*0+0)),.int .u64 (aB s.3 (2*n+5+2*0+0)),.bool (bM s.3 (2*n+5+2*0+0))]),some (.ints (some .u64) s.3),some (.cells [.int .i64 t,.int .i64 n,.raw (Value.slice none 0 0),.raw (Value.slice none 0 0),.slice 6 0 (List.length R) 1,.map 7,.int .i64 (W (0+1)),.raw (Value.pointer none)]),some (.ints (some .i64) R),some (.imap .i64 none (dI [] (W (aB s.3 (2*n+5+2*0+0))) 1))]) (by kernel_rfl) ?_)
 refine⟨⟨⟨rfl,hR⟩,trivial⟩,⟨by omega,trivial⟩,xE (fun h=>by omega) (fun _=>⟨⟨by omega,trivial⟩,⟨⟨rfl,by omega⟩,trivial⟩,⟨by omega,trivial⟩,?_⟩)⟩
 have e:W (0+1)=1:=by decide
 rw [e]
 refine HE (fun h=>by omega) (fun _=>hK)
theorem aAr(t n me sp i:Int)(R N:List Int)(s:MS)(m:List (Int×Int))(K:AVal→aD Ob→Prop)(ht:1≤t∧t≤1000)(hn:1≤n∧n≤1000)(hc:0≤s.c∧s.c≤1000000)(hN:N.length≤1000000)(hi:0≤i∧i<2*t)
 (hK:cond (ieq (i+1) (2*t)) (cond (ieq ((aV (aT m n i s) N).length :Int) 0) (K (.bool true) (UY t n me sp (.slice 8 0 (cI (aT m n i s) N).length 1) R N (cI (aT m n i s) N) (aV (aT m n i s) N) (s.loadd (bG n i)) (aT m n i s) (i+1))) (K (.bool false) (UY t n me sp (.slice 2 0 R.length 1) R N (cI (aT m n i s) N) (aV (aT m n i s) N) (s.loadd (bG n i)) (aT m n i s) (i+1)))) (K (.bool false) (swB t n me sp R N (s.loadd (bG n i)) (aT m n i s) (i+1)))):aC E35.I Tryz.prog 195 [.ptr 0 0,.ptr 6 0] (swB t n me sp R N s m i) K:=by
 refine aC8 (cM' (E:=E35) (q:=((((0:Int)≤t∧t≤(100000:Int))∧(0:Int)≤n∧n≤(100000:Int))∧True)∧bif ile (2*t) i then False else((((0:Int)≤t∧t≤(100000:Int))∧((0:Int)≤n∧n≤(100000:Int))∧((-1099511627776:Int)≤(0:Int)∧(0:Int)≤(1099511627776:Int))∧(-1099511627776:Int)≤i∧i≤(1099511627776:Int))∧True)∧((lE' s.3∧(0:Int)≤s.4∧s.4≤(4611686018427387904:Int))∧True)∧((((0:Int)≤t∧t≤(100000:Int))∧(0:Int)≤n∧n≤(100000:Int))∧True)∧bif ieq (W (i+1)) (2*t)then((lE' N∧List.length N≤(1000000:Nat))∧True)∧bif !ieq (↑(List.length (aV (dI m (W (aB s.3 (2*n+5+2*0+i))) 1) N)):Int) 0 then K (.bool false) [some (.cells [.ptr 1 0,.ptr 3 0]),some (.cells [.int .i64 t,.int .i64 n,.int .i64 me,.int .i64 sp,.slice 2 0 (List.length R) 1]),some (.ints (some .i64) R),some (.cells [.int .i64 t,.int .i64 n,.slice 8 0 (List.length (cI (dI m (W (aB s.3 (2*n+5+2*0+i))) 1) N)) 1,.slice 9 0 (List.length (aV (dI m (W (aB s.3 (2*n+5+2*0+i))) 1) N)) 1,.slice 4 0 (List.length N) 1,.map 5,.int .i64 (W (i+1)),.ptr 10 0]),some (.ints (some .i64) N),some (.imap .i64 none (dI m (W (aB s.3 (2*n+5+2*0+i))) 1)),some (.cells [.int .i64 s.1,.int .i64 s.2,.slice 7 0 (List.length s.3) 1,.int .i64 (s.4+1),.int .i64 1,.int .i64 (2*n+5+2*0+i),.int .u64 (aB s.3 (2*n+5+2*0+i)),.int .u64 (aB s.3 (2*n+5+2*0+i)),.bool (bM s.3 (2*n+5+2*0+i))]),some (.ints (some .u64) s.3),some (.ints (some .i64) (cI (dI m (W (aB s.3 (2*n+5+2*0+i))) 1) N)),some (.ints (some .i64) (aV (dI m (W (aB s.3 (2*n+5+2*0+i))) 1) N)),some (.cells [.int .i64 t,.int .i64 n,.slice 11 0 (List.length (aV (dI m (W (aB s.3 (2*n+5+2*0+i))) 1) N)) 1]),some (.ints (some .i64) (aV (dI m (W (aB s.3 (2*n+5+2*0+i))) 1) N))]else K (.bool true) [some (.cells [.ptr 1 0,.ptr 3 0]),some (.cells [.int .i64 t,.int .i64 n,.int .i64 me,.int .i64 sp,.slice 8 0 (List.length (cI (dI m (W (aB s.3 (2*n+5+2*0+i))) 1) N)) 1]),some (.ints (some .i64) R),some (.cells [.int .i64 t,.int .i64 n,.slice 8 0 (List.length (cI (dI m (W (aB s.3 (2*n+5+2*0+i))) 1) N)) 1,.slice 9 0 (List.length (aV (dI m (W (aB s.3 (2*n+5+2*0+i))) 1) N)) 1,.slice 4 0 (List.length N) 1,.map 5,.int .i64 (W (i+1)),.ptr 10 0]),some (.ints (some .i64) N),some (.imap .i64 none (dI m (W (aB s.3 (2*n+5+2*0+i))) 1)),some (.cells [.int .i64 s.1,.int .i64 s.2,.slice 7 0 (List.length s.3) 1,.int .i64 (s.4+1),.int .i64 1,.int .i64 (2*n+5+2*0+i),.int .u64 (aB s.3 (2*n+5+2*0+i)),.int .u64 (aB s.3 (2*n+5+2*0+i)),.bool (bM s.3 (2*n+5+2*0+i))]),some (.ints (some .u64) s.3),some (.ints (some .i64) (cI (dI m (W (aB s.3 (2*n+5+2*0+i))) 1) N)),some (.ints (some .i64) (aV (dI m (W (aB s.3 (2*n+5+2*0+i))) 1) N)),some (.cells [.int .i64 t,.int .i64 n,.slice 11 0 (List.length (aV (dI m (W (aB s.3 (2*n+5+2*0+i))) 1) N)) 1]),some (.ints (some .i64) (aV (dI m (W (aB s.3 (2*n+5+2*0+i))) 1) N))]else K (.bool false) [some (.cells [.ptr 1 0,.ptr 3 0]),some (.cells [.int .i64 t,.int .i64 n,.int .i64 me,.int .i64 sp,.slice 2 0 (List.length R) 1]),some (.ints (some .i64) R),some (.cells [.int .i64 t,.int .i64 n,.raw (Value.slice none 0 0),.raw (Value.slice none 0 0),.slice 4 0 (List.length N) 1,.map 5,.int .i64 (W (i+1)),.raw (Value.pointer none)]),some (.ints (some .i64) N),some (.imap .i64 none (dI m (W (aB s.3 (2*n+5+2*0+i))) 1)),some (.cells [.int .i64 s.1,.int .i64 s.2,.slice 7 0 (List.length s.3) 1,.int .i64 (s.4+1),.int .i64 1,.int .i64 (2*n+5+2*0+i),.int .u64 (aB s.3 (2*n+5+2*0+i)),.int .u64 (aB s.3 (2*n+5+2*0+i)),.bool (bM s.3 (2*n+5+2*0+i))]),some (.ints (some .u64) s.3)]) (by kernel_rfl) ?_)
 have e:W (i+1)=i+1:=yC (by omega)
 rw [e]
 refine⟨⟨by omega,trivial⟩,xE (fun h=>by omega) (fun _=>⟨⟨by omega,trivial⟩,⟨⟨rfl,by omega⟩,trivial⟩,⟨by omega,trivial⟩,?_⟩)⟩
 cases h1:ieq (i+1) (2*t)with
 | false=>rw [h1]at hK;exact hK
 | true=>
   rw [h1]at hK
   refine⟨⟨⟨rfl,hN⟩,trivial⟩,?_⟩
   cases h2:ieq ((aV (aT m n i s) N).length :Int) 0 with
   | false=>rw [h2]at hK;unfold aT bG at h2;rw [h2];exact hK
   | true=>rw [h2]at hK;unfold aT bG at h2;rw [h2];exact hK
theorem aAs(t n me sp i:Int)(R N ks fs gs:List Int)(s:MS)(m:List (Int×Int))(j l:Nat)(K:AVal→aD Ob→Prop)(ht:1≤t∧t≤1000)(hn:1≤n∧n≤1000)(hc:0≤s.c∧s.c≤1000000)(hi:2*t≤i)(hl:1≤l∧gs.length=j+l)(hg: -1000000≤List.getD gs (j+Int.toNat 0*1) 0∧List.getD gs (j+Int.toNat 0*1) 0≤1000000)
 (hK:cond (ieq ((l - 1:Nat):Int) 0) (K (.bool true) (swC t n me sp (.slice 4 0 ks.length 1) R N ks fs gs (s.added (bV n gs j) 1) m i (j+1) (l - 1))) (K (.bool false) (swC t n me sp (.slice 2 0 R.length 1) R N ks fs gs (s.added (bV n gs j) 1) m i (j+1) (l - 1)))):aC E35.I Tryz.prog 195 [.ptr 0 0,.ptr 10 0] (swC t n me sp (.slice 2 0 R.length 1) R N ks fs gs s m i j l) K:=by
 refine aC8 (cM' (E:=E35) (q:=((((0:Int)≤t∧t≤(100000:Int))∧(0:Int)≤n∧n≤(100000:Int))∧True)∧bif ile (2*t) i then bif ieq (↑l:Int) 0 then(lE' s.3∧(0:Int)≤s.4∧s.4≤(4611686018427387904:Int))∧K (.bool true) [some (.cells [.ptr 1 0,.ptr 3 0]),some (.cells [.int .i64 t,.int .i64 n,.int .i64 me,.int .i64 sp,.slice 4 0 (List.length ks) 1]),some (.ints (some .i64) R),some (.cells [.int .i64 t,.int .i64 n,.slice 4 0 (List.length ks) 1,.slice 5 0 (List.length fs) 1,.slice 6 0 (List.length N) 1,.map 7,.int .i64 i,.ptr 8 0]),some (.ints (some .i64) ks),some (.ints (some .i64) fs),some (.ints (some .i64) N),some (.imap .i64 none m),some (.cells [.int .i64 t,.int .i64 n,.slice 9 j l 1]),some (.ints (some .i64) gs),some (.cells [.int .i64 s.1,.int .i64 s.2,.slice 11 0 (List.length s.3) 1,.int .i64 (s.4+1),.int .i64 1,.int .i64 0,.int .u64 (aB s.3 0),.int .u64 (aB s.3 0),.bool (bM s.3 0)]),some (.ints (some .u64) s.3)]else((0:Int)≤(0:Int)∧(0:Int)<(↑l:Int))∧j+Int.toNat 0*(1:Nat)<List.length gs∧((((0:Int)≤t∧t≤(100000:Int))∧((0:Int)≤n∧n≤(100000:Int))∧(-1099511627776:Int)≤List.getD gs (j+Int.toNat 0*1) 0∧List.getD gs (j+Int.toNat 0*1) (0:Int)≤(1099511627776:Int))∧True)∧((lE' s.3∧(0:Int)≤s.4∧s.4≤(4611686018427387904:Int))∧True)∧((0:Int)≤(1:Int)∧Int.toNat (1:Int)≤l)∧bif !ieq (↑(l - Int.toNat 1):Int) 0 then K (.bool false) [some (.cells [.ptr 1 0,.ptr 3 0]),some (.cells [.int .i64 t,.int .i64 n,.int .i64 me,.int .i64 sp,.slice 2 0 (List.length R) 1]),some (.ints (some .i64) R),some (.cells [.int .i64 t,.int .i64 n,.slice 4 0 (List.length ks) 1,.slice 5 0 (List.length fs) 1,.slice 6 0 (List.length N) 1,.map 7,.int .i64 i,.ptr 8 0]),some (.ints (some .i64) ks),some (.ints (some .i64) fs),some (.ints (some .i64) N),some (.imap .i64 none m),some (.cells [.int .i64 t,.int .i64 n,.slice 9 (j+Int.toNat 1*1) (l - Int.toNat 1) 1]),some (.ints (some .i64) gs),some (.cells [.int .i64 s.1,.int .i64 s.2,.slice 11 0 (List.length (aL s.3 (n+4+List.getD gs (j+Int.toNat 0*1) 0) (WU (aB s.3 (n+4+List.getD gs (j+Int.toNat 0*1) 0)+1)))) 1,.int .i64 (s.4+1),.int .i64 4,.int .i64 (n+4+List.getD gs (j+Int.toNat 0*1) 0),.int .u64 (aB s.3 (n+4+List.getD gs (j+Int.toNat 0*1) 0)),.int .u64 (bif bM s.3 (n+4+List.getD gs (j+Int.toNat 0*1) 0)then WU (aB s.3 (n+4+List.getD gs (j+Int.toNat 0*1) 0)+1)else 0),.bool (bM s.3 (n+4+List.getD gs (j+Int.toNat 0*1) 0))]),some (.ints (some .u64) (aL s.3 (n+4+List.getD gs (j+Int.toNat 0*1) 0) (WU (aB s.3 (n+4+List.getD gs (j+Int.toNat 0*1) 0)+1))))]else K (.bool true) [some (.cells [.ptr 1 0,.ptr 3 0]),some (.cells [.int .i64 t,.int .i64 n,.int .i64 me,.int .i64 sp,.slice 4 0 (List.length ks) 1]),some (.ints (some .i64) R),some (.cells [.int .i64 t,.int .i64 n,.slice 4 0 (List.length ks) 1,.slice 5 0 (List.length fs) 1,.slice 6 0 (List.length N) 1,.map 7,.int .i64 i,.ptr 8 0]),some (.ints (some .i64) ks),some (.ints (some .i64) fs),some (.ints (some .i64) N),some (.imap .i64 none m),some (.cells [.int .i64 t,.int .i64 n,.slice 9 (j+Int.toNat 1*1) (l - Int.toNat 1) 1]),some (.ints (some .i64) gs),some (.cells [.int .i64 s.1,.int .i64 s.2,.slice 11 0 (List.length (aL s.3 (n+4+List.getD gs (j+Int.toNat 0*1) 0) (WU (aB s.3 (n+4+List.getD gs (j+Int.toNat 0*1) 0)+1)))) 1,.int .i64 (s.4+1),.int .i64 4,.int .i64 (n+4+List.getD gs (j+Int.toNat 0*1) 0),.int .u64 (aB s.3 (n+4+List.getD gs (j+Int.toNat 0*1) 0)),.int .u64 (bif bM s.3 (n+4+List.getD gs (j+Int.toNat 0*1) 0)then WU (aB s.3 (n+4+List.getD gs (j+Int.toNat 0*1) 0)+1)else 0),.bool (bM s.3 (n+4+List.getD gs (j+Int.toNat 0*1) 0))]),some (.ints (some .u64) (aL s.3 (n+4+List.getD gs (j+Int.toNat 0*1) 0) (WU (aB s.3 (n+4+List.getD gs (j+Int.toNat 0*1) 0)+1))))]else((((0:Int)≤t∧t≤(100000:Int))∧((0:Int)≤n∧n≤(100000:Int))∧((-1099511627776:Int)≤(0:Int)∧(0:Int)≤(1099511627776:Int))∧(-1099511627776:Int)≤i∧i≤(1099511627776:Int))∧True)∧((lE' s.3∧(0:Int)≤s.4∧s.4≤(4611686018427387904:Int))∧True)∧((((0:Int)≤t∧t≤(100000:Int))∧(0:Int)≤n∧n≤(100000:Int))∧True)∧bif ieq (W (i+1)) (2*t)then False else K (.bool false) [some (.cells [.ptr 1 0,.ptr 3 0]),some (.cells [.int .i64 t,.int .i64 n,.int .i64 me,.int .i64 sp,.slice 2 0 (List.length R) 1]),some (.ints (some .i64) R),some (.cells [.int .i64 t,.int .i64 n,.slice 4 0 (List.length ks) 1,.slice 5 0 (List.length fs) 1,.slice 6 0 (List.length N) 1,.map 7,.int .i64 (W (i+1)),.ptr 8 0]),some (.ints (some .i64) ks),some (.ints (some .i64) fs),some (.ints (some .i64) N),some (.imap .i64 none (dI m (W (aB s.3 (2*n+5+2*0+i))) 1)),some (.cells [.int .i64 t,.int .i64 n,.slice 9 j l 1]),some (.ints (some .i64) gs),some (.cells [.int .i64 s.1,.int .i64 s.2,.slice 11 0 (List.length s.3) 1,.int .i64 (s.4+1),.int .i64 1,.int .i64 (2*n+5+2*0+i),.int .u64 (aB s.3 (2*n+5+2*0+i)),.int .u64 (aB s.3 (2*n+5+2*0+i)),.bool (bM s.3 (2*n+5+2*0+i))]),some (.ints (some .u64) s.3)]) (by kernel_rfl) ?_)
 refine⟨⟨by omega,trivial⟩,xE (fun h=>HE (fun h0=>by omega) (fun _=>⟨by omega,by omega,⟨by omega,trivial⟩,⟨⟨rfl,by omega⟩,trivial⟩,by omega,?_⟩)) (fun h=>by omega)⟩
 have e:l - Int.toNat 1=l - 1:=rfl
 rw [e]
 cases h1:ieq ((l - 1:Nat):Int) 0 with
 | false=>rw [h1]at hK;exact hK
 | true=>rw [h1]at hK;exact hK
theorem U2:aJ.ok E35.I Tryz.prog 195 swS1:=by
 intro args h o ho K hK
 unfold swS1 at ho
 split at ho
 case h_2=>cases ho
 split at ho<;>cases ho
 rename_i hm
 obtain⟨⟨⟨hl,hk⟩,ht,hn,hc,hR⟩,hK⟩:=hK
 have hh:=bA hm hl
 cases hh
 subst hk
 exact aAq _ _ _ _ _ _ K ht hn hc hR hK
theorem U3:aJ.ok E35.I Tryz.prog 195 swS2:=by
 intro args h o ho K hK
 unfold swS2 at ho
 split at ho
 case h_2=>cases ho
 split at ho<;>cases ho
 rename_i hm
 obtain⟨⟨⟨hl,hk,hk',h1,h2⟩,ht,hn,hc,hN,hi⟩,hK⟩:=hK
 have hh:=bA hm hl
 cases hh
 subst hk hk' h1 h2
 exact aAr _ _ _ _ _ _ _ _ _ K ht hn hc hN hi hK
theorem U4:aJ.ok E35.I Tryz.prog 195 swS3:=by
 intro args h o ho K hK
 unfold swS3 at ho
 split at ho
 case h_2=>cases ho
 split at ho<;>cases ho
 rename_i hm
 obtain⟨⟨⟨hl,hk,hk1,hk2,hk3,h1,h2,h3,h4⟩,ht,hn,hc,hi,hl',hg⟩,hK⟩:=hK
 have hh:=bA hm hl
 cases hh
 subst hk hk1 hk2 hk3 h1 h2 h3 h4
 exact aAs _ _ _ _ _ _ _ _ _ _ _ _ _ _ K ht hn hc hi hl' hg hK
theorem oI:aJ.ok E35.I Tryz.prog 195 swStepS:=by
 intro args h o ho
 unfold swStepS at ho
 split at ho
 ·rename_i e;cases ho;exact U2 _ _ _ e
 ·split at ho
  ·rename_i e;cases ho;exact U3 _ _ _ e
  ·exact U4 _ _ _ ho
noncomputable def E36:=E35.addS 195 swStepS oI
end Go.Sh
