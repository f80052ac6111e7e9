import Derived.Test.YtedeloeobocpiaaGreatZM0toM35
set_option linter.all false
set_option maxHeartbeats 8000000
namespace Go.Sh
open Go Go.Proofs
variable [Con]
def swA(t n me sp:Int)(R:List Int)(s:MS):aD Ob:=[some (.cells [.ptr 1 0,.raw (.pointer none)]),some (.cells [.int .i64 t,.int .i64 n,.int .i64 me,.int .i64 sp,.slice 2 0 R.length 1]),some (.ints (some .i64) R),some (.cells [.int .i64 s.t,.int .i64 s.n,.slice 4 0 s.xs.length 1,.int .i64 s.c,.int .i64 s.k,.int .i64 s.a,.int .u64 s.o,.int .u64 s.w,.bool s.ok]),some (.ints (some .u64) s.xs)]
def aEF(t n me sp:Int)(R:List Int)(s:MS)(m:List (Int×Int))(i:Int):aD Ob:=[some (.cells [.ptr 1 0,.ptr 5 0]),some (.cells [.int .i64 t,.int .i64 n,.int .i64 me,.int .i64 sp,.slice 2 0 R.length 1]),some (.ints (some .i64) R),some (.cells [.int .i64 s.t,.int .i64 s.n,.slice 4 0 s.xs.length 1,.int .i64 s.c,.int .i64 s.k,.int .i64 s.a,.int .u64 s.o,.int .u64 s.w,.bool s.ok]),some (.ints (some .u64) s.xs),some (.cells [.int .i64 t,.int .i64 n,.raw (.slice none 0 0),.raw (.slice none 0 0),.slice 6 0 R.length 1,.map 7,.int .i64 i,.raw (.pointer none)]),some (.ints (some .i64) R),some (.imap .i64 none m)]
def swB(t n me sp:Int)(R N:List Int)(s:MS)(m:List (Int×Int))(i:Int):aD Ob:=[some (.cells [.ptr 1 0,.ptr 3 0]),some (.cells [.int .i64 t,.int .i64 n,.int .i64 me,.int .i64 sp,.slice 2 0 R.length 1]),some (.ints (some .i64) R),some (.cells [.int .i64 t,.int .i64 n,.raw (.slice none 0 0),.raw (.slice none 0 0),.slice 4 0 N.length 1,.map 5,.int .i64 i,.raw (.pointer none)]),some (.ints (some .i64) N),some (.imap .i64 none m),some (.cells [.int .i64 s.t,.int .i64 s.n,.slice 7 0 s.xs.length 1,.int .i64 s.c,.int .i64 s.k,.int .i64 s.a,.int .u64 s.o,.int .u64 s.w,.bool s.ok]),some (.ints (some .u64) s.xs)]
def YD(t n me sp:Int)(st:AVal)(R N ks fs:List Int)(s:MS)(m:List (Int×Int))(i:Int):aD Ob:=[some (.cells [.ptr 1 0,.ptr 3 0]),some (.cells [.int .i64 t,.int .i64 n,.int .i64 me,.int .i64 sp,st]),some (.ints (some .i64) R),some (.cells [.int .i64 t,.int .i64 n,.slice 8 0 ks.length 1,.slice 9 0 fs.length 1,.slice 4 0 N.length 1,.map 5,.int .i64 i,.ptr 10 0]),some (.ints (some .i64) N),some (.imap .i64 none m),some (.cells [.int .i64 s.t,.int .i64 s.n,.slice 7 0 s.xs.length 1,.int .i64 s.c,.int .i64 s.k,.int .i64 s.a,.int .u64 s.o,.int .u64 s.w,.bool s.ok]),some (.ints (some .u64) s.xs),some (.ints (some .i64) ks),some (.ints (some .i64) fs),some (.cells [.int .i64 t,.int .i64 n,.slice 11 0 fs.length 1]),some (.ints (some .i64) fs)]
def swC(t n me sp:Int)(st:AVal)(R N ks fs gs:List Int)(s:MS)(m:List (Int×Int))(i:Int)(j l:Nat):aD Ob:=[some (.cells [.ptr 1 0,.ptr 3 0]),some (.cells [.int .i64 t,.int .i64 n,.int .i64 me,.int .i64 sp,st]),some (.ints (some .i64) R),some (.cells [.int .i64 t,.int .i64 n,.slice 4 0 ks.length 1,.slice 5 0 fs.length 1,.slice 6 0 N.length 1,.map 7,.int .i64 i,.ptr 8 0]),some (.ints (some .i64) ks),some (.ints (some .i64) fs),some (.ints (some .i64) N),some (.imap .i64 none m),some (.cells [.int .i64 t,.int .i64 n,.slice 9 j l 1]),some (.ints (some .i64) gs),some (.cells [.int .i64 s.t,.int .i64 s.n,.slice 11 0 s.xs.length 1,.int .i64 s.c,.int .i64 s.k,.int .i64 s.a,.int .u64 s.o,.int .u64 s.w,.bool s.ok]),some (.ints (some .u64) s.xs)]
def cU(w:Nat)(h:aD Ob):Option (Nat×MS):=match h with
 | [some (.cells [.int .i64 t,.int .i64 n,.slice l 0 len 1,.int .i64 c,.int .i64 k,.int .i64 a,.int .u64 o,.int .u64 v,.bool ok]),some (.ints (some .u64) xs)]=>if l=w then some (len,⟨t,n,xs,c,k,a,o,v,ok⟩)else none
 | _=>none
theorem bB{w:Nat}{h:aD Ob}{l:Nat}{s:MS}(e:cU w h=some (l,s))(hl:l=s.xs.length):h=[some (.cells [.int .i64 s.t,.int .i64 s.n,.slice w 0 s.xs.length 1,.int .i64 s.c,.int .i64 s.k,.int .i64 s.a,.int .u64 s.o,.int .u64 s.w,.bool s.ok]),some (.ints (some .u64) s.xs)]:=by
 unfold cU at e;split at e
 ·split at e
  ·rename_i hw;simp only [sI',pI']at e;obtain⟨rfl,rfl⟩:=e;subst hw;simp only at hl;subst hl;rfl
  ·cases e
 ·cases e
def bL(n i:Int):Int:=2*n+5+2*0+i
def aV(m:List (Int×Int))(n i:Int)(s:MS):List (Int×Int):=cL m (W (aB s.xs (bL n i))) 1
def bZ(n:Int)(gs:List Int)(j:Nat):Int:=n+4+List.getD gs (j+Int.toNat 0*1) 0
noncomputable def swS1:aG Ob:=fun args h=>match args,h with
 | [.ptr 0 0,.ptr 3 0],[some (.cells [.ptr 1 0,.raw (.pointer none)]),some (.cells [.int .i64 t,.int .i64 n,.int .i64 me,.int .i64 sp,.slice 2 0 k 1]),some (.ints (some .i64) R),e1,e2]=>(match cU 4 [e1,e2]with
   | some (l,s)=>some (.pre ((l=s.xs.length∧k=R.length)∧(1≤t∧t≤1000)∧(1≤n∧n≤1000)∧(0≤s.c∧s.c≤1000000)∧R.length≤1000000) (.ret (.bool false) (aEF t n me sp R (s.loadd (bL n 0)) (aV [] n 0 s) 1)))
   | none=>none)
 | _,_=>none
noncomputable def swS2:aG Ob:=fun args h=>match args,h with
 | [.ptr 0 0,.ptr 6 0],[some (.cells [.ptr 1 0,.ptr 3 0]),some (.cells [.int .i64 t,.int .i64 n,.int .i64 me,.int .i64 sp,.slice 2 0 k 1]),some (.ints (some .i64) R),some (.cells [.int .i64 t',.int .i64 n',.raw (.slice none 0 0),.raw (.slice none 0 0),.slice 4 0 k' 1,.map 5,.int .i64 i,.raw (.pointer none)]),some (.ints (some .i64) N),some (.imap .i64 none m),e1,e2]=>(match cU 7 [e1,e2]with
   | some (l,s)=>some (.pre ((l=s.xs.length∧k=R.length∧k'=N.length∧t'=t∧n'=n)∧(1≤t∧t≤1000)∧(1≤n∧n≤1000)∧(0≤s.c∧s.c≤1000000)∧N.length≤1000000∧(0≤i∧i<2*t)) (.ite (ieq (i+1) (2*t))
      (.ite (ieq ((aX (aV m n i s) N).length :Int) 0) (.ret (.bool true) (YD t n me sp (.slice 8 0 (cK (aV m n i s) N).length 1) R N (cK (aV m n i s) N) (aX (aV m n i s) N) (s.loadd (bL n i)) (aV m n i s) (i+1)))
        (.ret (.bool false) (YD t n me sp (.slice 2 0 R.length 1) R N (cK (aV m n i s) N) (aX (aV m n i s) N) (s.loadd (bL n i)) (aV m n i s) (i+1))))
      (.ret (.bool false) (swB t n me sp R N (s.loadd (bL n i)) (aV m n i s) (i+1)))))
   | none=>none)
 | _,_=>none
noncomputable def swS3:aG Ob:=fun args h=>match args,h with
 | [.ptr 0 0,.ptr 10 0],[some (.cells [.ptr 1 0,.ptr 3 0]),some (.cells [.int .i64 t,.int .i64 n,.int .i64 me,.int .i64 sp,.slice 2 0 k 1]),some (.ints (some .i64) R),some (.cells [.int .i64 t',.int .i64 n',.slice 4 0 k1 1,.slice 5 0 k2 1,.slice 6 0 k3 1,.map 7,.int .i64 i,.ptr 8 0]),some (.ints (some .i64) ks),some (.ints (some .i64) fs),some (.ints (some .i64) N),some (.imap .i64 none m),some (.cells [.int .i64 t'',.int .i64 n'',.slice 9 j l' 1]),some (.ints (some .i64) gs),e1,e2]=>(match cU 11 [e1,e2]with
   | some (l,s)=>some (.pre ((l=s.xs.length∧k=R.length∧k1=ks.length∧k2=fs.length∧k3=N.length∧t'=t∧n'=n∧t''=t∧n''=n)∧(1≤t∧t≤1000)∧(1≤n∧n≤1000)∧(0≤s.c∧s.c≤1000000)∧2*t≤i∧(1≤l'∧gs.length=j+l')∧(-1000000≤List.getD gs (j+Int.toNat 0*1) 0∧List.getD gs (j+Int.toNat 0*1) 0≤1000000)) (.ite (ieq ((l' - 1:Nat):Int) 0)
      (.ret (.bool true) (swC t n me sp (.slice 4 0 ks.length 1) R N ks fs gs (s.added (bZ n gs j) 1) m i (j+1) (l' - 1)))
      (.ret (.bool false) (swC t n me sp (.slice 2 0 R.length 1) R N ks fs gs (s.added (bZ n gs j) 1) m i (j+1) (l' - 1)))))
   | none=>none)
 | _,_=>none
noncomputable def swStepS:aG Ob:=fun args h=>match swS1 args h with
 | some o=>some o
 | none=>match swS2 args h with
   | some o=>some o
   | none=>swS3 args h
theorem aCD(t n me sp:Int)(R:List Int)(s:MS)(K:AVal→aD Ob→Prop)(ht:1≤t∧t≤1000)(hn:1≤n∧n≤1000)(hc:0≤s.c∧s.c≤1000000)(hR:R.length≤1000000)(hK:K (.bool false) (aEF t n me sp R (s.loadd (bL n 0)) (aV [] n 0 s) 1)):aC E35.I Tryz.prog 195 [.ptr 0 0,.ptr 3 0] (swA t n me sp R s) K:=by
 refine aFQ (cM' (E:=E35) (q:=((lE' R∧R.length≤(1000000:Nat))∧True)∧((((0:Int)≤t∧t≤(100000:Int))∧(0:Int)≤n∧n≤(100000:Int))∧True)∧bif ile (2*t) 0 then False else((((0:Int)≤t∧t≤(100000:Int))∧((0:Int)≤n∧n≤(100000:Int))∧((-1099511627776:Int)≤(0:Int)∧(0:Int)≤(1099511627776:Int))∧(-1099511627776:Int)≤(0:Int)∧(0:Int)≤(1099511627776:Int))∧True)∧((lE' s.3∧(0:Int)≤s.4∧s.4≤(4611686018427387904:Int))∧True)∧((((0:Int)≤t∧t≤(100000:Int))∧(0:Int)≤n∧n≤(100000:Int))∧True)∧bif ieq (W (0+1)) (2*t)then((lE' R∧R.length≤(1000000:Nat))∧True)∧bif !ieq (↑(List.length (aX (cL [] (W (aB s.3 (2*n+5+2*0+0))) 1) R)):Int) 0 then K (.bool false) [some (.cells [.ptr 1 0,.ptr 5 0]),some (.cells [.int .i64 t,.int .i64 n,.int .i64 me,.int .i64 sp,.slice 2 0 R.length 1]),some (.ints (some .i64) R),some (.cells [.int .i64 s.1,.int .i64 s.2,.slice 4 0 s.3.length 1,.int .i64 (s.4+1),.int .i64 1,.int .i64 (2*n+5+2*0+0),.int .u64 (aB s.3 (2*n+5+2*0+0)),.int .u64 (aB s.3 (2*n+5+2*0+0)),.bool (bS s.3 (2*n+5+2*0+0))]),some (.ints (some .u64) s.3),some (.cells [.int .i64 t,.int .i64 n,.slice 6 0 (List.length (cK (cL [] (W (aB s.3 (2*n+5+2*0+0))) 1) R)) 1,.slice 7 0 (List.length (aX (cL [] (W (aB s.3 (2*n+5+2*0+0))) 1) R)) 1,.slice 8 0 R.length 1,.map 9,.int .i64 (W (0+1)),.ptr 10 0]),some (.ints (some .i64) (cK (cL [] (W (aB s.3 (2*n+5+2*0+0))) 1) R)),some (.ints (some .i64) (aX (cL [] (W (aB s.3 (2*n+5+2*0+0))) 1) R)),some (.ints (some .i64) R),some (.imap .i64 none (cL [] (W (aB s.3 (2*n+5+2*0+0))) 1)),some (.cells [.int .i64 t,.int .i64 n,.slice 11 0 (List.length (aX (cL [] (W (aB s.3 (2*n+5+2*0+0))) 1) R)) 1]),some (.ints (some .i64) (aX (cL [] (W (aB s.3 (2*n+5+2*0+0))) 1) R))]else K (.bool true) [some (.cells [.ptr 1 0,.ptr 5 0]),some (.cells [.int .i64 t,.int .i64 n,.int .i64 me,.int .i64 sp,.slice 6 0 (List.length (cK (cL [] (W (aB s.3 (2*n+5+2*0+0))) 1) R)) 1]),some (.ints (some .i64) R),some (.cells [.int .i64 s.1,.int .i64 s.2,.slice 4 0 s.3.length 1,.int .i64 (s.4+1),.int .i64 1,.int .i64 (2*n+5+2*0+0),.int .u64 (aB s.3 (2*n+5+2*0+0)),.int .u64 (aB s.3 (2*n+5+2*0+0)),.bool (bS s.3 (2*n+5+2*0+0))]),some (.ints (some .u64) s.3),some (.cells [.int .i64 t,.int .i64 n,.slice 6 0 (List.length (cK (cL [] (W (aB s.3 (2*n+5+2*0+0))) 1) R)) 1,.slice 7 0 (List.length (aX (cL [] (W (aB s.3 (2*n+5+2*0+0))) 1) R)) 1,.slice 8 0 R.length 1,.map 9,.int .i64 (W (0+1)),.ptr 10 0]),some (.ints (some .i64) (cK (cL [] (W (aB s.3 (2*n+5+2*0+0))) 1) R)),some (.ints (some .i64) (aX (cL [] (W (aB s.3 (2*n+5+2*0+0))) 1) R)),some (.ints (some .i64) R),some (.imap .i64 none (cL [] (W (aB s.3 (2*n+5+2*0+0))) 1)),some (.cells [.int .i64 t,.int .i64 n,.slice 11 0 (List.length (aX (cL [] (W (aB s.3 (2*n+5+2*0+0))) 1) R)) 1]),some (.ints (some .i64) (aX (cL [] (W (aB s.3 (2*n+5+2*0+0))) 1) R))]else K (.bool false) [some (.cells [.ptr 1 0,.ptr 5 0]),some (.cells [.int .i64 t,.int .i64 n,.int .i64 me,.int .i64 sp,.slice 2 0 R.length 1]),some (.ints (some .i64) R),some (.cells [.int .i64 s.1,.int .i64 s.2,.slice 4 0 s.3.length 1,.int .i64 (s.4+1),.int .i64 1,.int .i64 (2*n+5+2*0+0),.int .u64 (aB s.3 (2*n+5+2*0+0)),.int .u64 (aB s.3 (2*n+5+2*0+0)),.bool (bS s.3 (2*n+5+2*0+0))]),some (.ints (some .u64) s.3),some (.cells [.int .i64 t,.int .i64 n,.raw (Value.slice none 0 0),.raw (Value.slice none 0 0),.slice 6 0 R.length 1,.map 7,.int .i64 (W (0+1)),.raw (Value.pointer none)]),some (.ints (some .i64) R),some (.imap .i64 none (cL [] (W (aB s.3 (2*n+5+2*0+0))) 1))]) (by kernel_rfl) ?_)
 refine⟨⟨⟨rfl,hR⟩,trivial⟩,⟨by omega,trivial⟩,uQ (fun h=>by omega) (fun _=>⟨⟨by omega,trivial⟩,⟨⟨rfl,by omega⟩,trivial⟩,⟨by omega,trivial⟩,?_⟩)⟩
 have e:W (0+1)=1:=by decide
 rw [e];refine JJ (fun h=>by omega) (fun _=>hK)
theorem aCE(t n me sp i:Int)(R N:List Int)(s:MS)(m:List (Int×Int))(K:AVal→aD Ob→Prop)(ht:1≤t∧t≤1000)(hn:1≤n∧n≤1000)(hc:0≤s.c∧s.c≤1000000)(hN:N.length≤1000000)(hi:0≤i∧i<2*t)
 (hK:cond (ieq (i+1) (2*t)) (cond (ieq ((aX (aV m n i s) N).length :Int) 0) (K (.bool true) (YD t n me sp (.slice 8 0 (cK (aV m n i s) N).length 1) R N (cK (aV m n i s) N) (aX (aV m n i s) N) (s.loadd (bL n i)) (aV m n i s) (i+1))) (K (.bool false) (YD t n me sp (.slice 2 0 R.length 1) R N (cK (aV m n i s) N) (aX (aV m n i s) N) (s.loadd (bL n i)) (aV m n i s) (i+1)))) (K (.bool false) (swB t n me sp R N (s.loadd (bL n i)) (aV m n i s) (i+1)))):aC E35.I Tryz.prog 195 [.ptr 0 0,.ptr 6 0] (swB t n me sp R N s m i) K:=by
 refine aFQ (cM' (E:=E35) (q:=((((0:Int)≤t∧t≤(100000:Int))∧(0:Int)≤n∧n≤(100000:Int))∧True)∧bif ile (2*t) i then False else((((0:Int)≤t∧t≤(100000:Int))∧((0:Int)≤n∧n≤(100000:Int))∧((-1099511627776:Int)≤(0:Int)∧(0:Int)≤(1099511627776:Int))∧(-1099511627776:Int)≤i∧i≤(1099511627776:Int))∧True)∧((lE' s.3∧(0:Int)≤s.4∧s.4≤(4611686018427387904:Int))∧True)∧((((0:Int)≤t∧t≤(100000:Int))∧(0:Int)≤n∧n≤(100000:Int))∧True)∧bif ieq (W (i+1)) (2*t)then((lE' N∧N.length≤(1000000:Nat))∧True)∧bif !ieq (↑(List.length (aX (cL m (W (aB s.3 (2*n+5+2*0+i))) 1) N)):Int) 0 then K (.bool false) [some (.cells [.ptr 1 0,.ptr 3 0]),some (.cells [.int .i64 t,.int .i64 n,.int .i64 me,.int .i64 sp,.slice 2 0 R.length 1]),some (.ints (some .i64) R),some (.cells [.int .i64 t,.int .i64 n,.slice 8 0 (List.length (cK (cL m (W (aB s.3 (2*n+5+2*0+i))) 1) N)) 1,.slice 9 0 (List.length (aX (cL m (W (aB s.3 (2*n+5+2*0+i))) 1) N)) 1,.slice 4 0 N.length 1,.map 5,.int .i64 (W (i+1)),.ptr 10 0]),some (.ints (some .i64) N),some (.imap .i64 none (cL m (W (aB s.3 (2*n+5+2*0+i))) 1)),some (.cells [.int .i64 s.1,.int .i64 s.2,.slice 7 0 s.3.length 1,.int .i64 (s.4+1),.int .i64 1,.int .i64 (2*n+5+2*0+i),.int .u64 (aB s.3 (2*n+5+2*0+i)),.int .u64 (aB s.3 (2*n+5+2*0+i)),.bool (bS s.3 (2*n+5+2*0+i))]),some (.ints (some .u64) s.3),some (.ints (some .i64) (cK (cL m (W (aB s.3 (2*n+5+2*0+i))) 1) N)),some (.ints (some .i64) (aX (cL m (W (aB s.3 (2*n+5+2*0+i))) 1) N)),some (.cells [.int .i64 t,.int .i64 n,.slice 11 0 (List.length (aX (cL m (W (aB s.3 (2*n+5+2*0+i))) 1) N)) 1]),some (.ints (some .i64) (aX (cL m (W (aB s.3 (2*n+5+2*0+i))) 1) N))]else K (.bool true) [some (.cells [.ptr 1 0,.ptr 3 0]),some (.cells [.int .i64 t,.int .i64 n,.int .i64 me,.int .i64 sp,.slice 8 0 (List.length (cK (cL m (W (aB s.3 (2*n+5+2*0+i))) 1) N)) 1]),some (.ints (some .i64) R),some (.cells [.int .i64 t,.int .i64 n,.slice 8 0 (List.length (cK (cL m (W (aB s.3 (2*n+5+2*0+i))) 1) N)) 1,.slice 9 0 (List.length (aX (cL m (W (aB s.3 (2*n+5+2*0+i))) 1) N)) 1,.slice 4 0 N.length 1,.map 5,.int .i64 (W (i+1)),.ptr 10 0]),some (.ints (some .i64) N),some (.imap .i64 none (cL m (W (aB s.3 (2*n+5+2*0+i))) 1)),some (.cells [.int .i64 s.1,.int .i64 s.2,.slice 7 0 s.3.length 1,.int .i64 (s.4+1),.int .i64 1,.int .i64 (2*n+5+2*0+i),.int .u64 (aB s.3 (2*n+5+2*0+i)),.int .u64 (aB s.3 (2*n+5+2*0+i)),.bool (bS s.3 (2*n+5+2*0+i))]),some (.ints (some .u64) s.3),some (.ints (some .i64) (cK (cL m (W (aB s.3 (2*n+5+2*0+i))) 1) N)),some (.ints (some .i64) (aX (cL m (W (aB s.3 (2*n+5+2*0+i))) 1) N)),some (.cells [.int .i64 t,.int .i64 n,.slice 11 0 (List.length (aX (cL m (W (aB s.3 (2*n+5+2*0+i))) 1) N)) 1]),some (.ints (some .i64) (aX (cL m (W (aB s.3 (2*n+5+2*0+i))) 1) N))]else K (.bool false) [some (.cells [.ptr 1 0,.ptr 3 0]),some (.cells [.int .i64 t,.int .i64 n,.int .i64 me,.int .i64 sp,.slice 2 0 R.length 1]),some (.ints (some .i64) R),some (.cells [.int .i64 t,.int .i64 n,.raw (Value.slice none 0 0),.raw (Value.slice none 0 0),.slice 4 0 N.length 1,.map 5,.int .i64 (W (i+1)),.raw (Value.pointer none)]),some (.ints (some .i64) N),some (.imap .i64 none (cL m (W (aB s.3 (2*n+5+2*0+i))) 1)),some (.cells [.int .i64 s.1,.int .i64 s.2,.slice 7 0 s.3.length 1,.int .i64 (s.4+1),.int .i64 1,.int .i64 (2*n+5+2*0+i),.int .u64 (aB s.3 (2*n+5+2*0+i)),.int .u64 (aB s.3 (2*n+5+2*0+i)),.bool (bS s.3 (2*n+5+2*0+i))]),some (.ints (some .u64) s.3)]) (by kernel_rfl) ?_)
 have e:W (i+1)=i+1:=vM (by omega)
 rw [e];refine⟨⟨by omega,trivial⟩,uQ (fun h=>by omega) (fun _=>⟨⟨by omega,trivial⟩,⟨⟨rfl,by omega⟩,trivial⟩,⟨by omega,trivial⟩,?_⟩)⟩
 cases h1:ieq (i+1) (2*t)with
 | false=>rw [h1]at hK;exact hK
 | true=>
   rw [h1]at hK;refine⟨⟨⟨rfl,hN⟩,trivial⟩,?_⟩;cases h2:ieq ((aX (aV m n i s) N).length :Int) 0 with
   | false=>rw [h2]at hK;unfold aV bL at h2;rw [h2];exact hK
   | true=>rw [h2]at hK;unfold aV bL at h2;rw [h2];exact hK
theorem aCF(t n me sp i:Int)(R N ks fs gs:List Int)(s:MS)(m:List (Int×Int))(j l:Nat)(K:AVal→aD Ob→Prop)(ht:1≤t∧t≤1000)(hn:1≤n∧n≤1000)(hc:0≤s.c∧s.c≤1000000)(hi:2*t≤i)(hl:1≤l∧gs.length=j+l)(hg: -1000000≤List.getD gs (j+Int.toNat 0*1) 0∧List.getD gs (j+Int.toNat 0*1) 0≤1000000)
 (hK:cond (ieq ((l - 1:Nat):Int) 0) (K (.bool true) (swC t n me sp (.slice 4 0 ks.length 1) R N ks fs gs (s.added (bZ n gs j) 1) m i (j+1) (l - 1))) (K (.bool false) (swC t n me sp (.slice 2 0 R.length 1) R N ks fs gs (s.added (bZ n gs j) 1) m i (j+1) (l - 1)))):aC E35.I Tryz.prog 195 [.ptr 0 0,.ptr 10 0] (swC t n me sp (.slice 2 0 R.length 1) R N ks fs gs s m i j l) K:=by
 refine aFQ (cM' (E:=E35) (q:=((((0:Int)≤t∧t≤(100000:Int))∧(0:Int)≤n∧n≤(100000:Int))∧True)∧bif ile (2*t) i then bif ieq (↑l:Int) 0 then(lE' s.3∧(0:Int)≤s.4∧s.4≤(4611686018427387904:Int))∧K (.bool true) [some (.cells [.ptr 1 0,.ptr 3 0]),some (.cells [.int .i64 t,.int .i64 n,.int .i64 me,.int .i64 sp,.slice 4 0 ks.length 1]),some (.ints (some .i64) R),some (.cells [.int .i64 t,.int .i64 n,.slice 4 0 ks.length 1,.slice 5 0 fs.length 1,.slice 6 0 N.length 1,.map 7,.int .i64 i,.ptr 8 0]),some (.ints (some .i64) ks),some (.ints (some .i64) fs),some (.ints (some .i64) N),some (.imap .i64 none m),some (.cells [.int .i64 t,.int .i64 n,.slice 9 j l 1]),some (.ints (some .i64) gs),some (.cells [.int .i64 s.1,.int .i64 s.2,.slice 11 0 s.3.length 1,.int .i64 (s.4+1),.int .i64 1,.int .i64 0,.int .u64 (aB s.3 0),.int .u64 (aB s.3 0),.bool (bS s.3 0)]),some (.ints (some .u64) s.3)]else((0:Int)≤(0:Int)∧(0:Int)<(↑l:Int))∧j+Int.toNat 0*(1:Nat)<gs.length∧((((0:Int)≤t∧t≤(100000:Int))∧((0:Int)≤n∧n≤(100000:Int))∧(-1099511627776:Int)≤List.getD gs (j+Int.toNat 0*1) 0∧List.getD gs (j+Int.toNat 0*1) (0:Int)≤(1099511627776:Int))∧True)∧((lE' s.3∧(0:Int)≤s.4∧s.4≤(4611686018427387904:Int))∧True)∧((0:Int)≤(1:Int)∧Int.toNat (1:Int)≤l)∧bif !ieq (↑(l - Int.toNat 1):Int) 0 then K (.bool false) [some (.cells [.ptr 1 0,.ptr 3 0]),some (.cells [.int .i64 t,.int .i64 n,.int .i64 me,.int .i64 sp,.slice 2 0 R.length 1]),some (.ints (some .i64) R),some (.cells [.int .i64 t,.int .i64 n,.slice 4 0 ks.length 1,.slice 5 0 fs.length 1,.slice 6 0 N.length 1,.map 7,.int .i64 i,.ptr 8 0]),some (.ints (some .i64) ks),some (.ints (some .i64) fs),some (.ints (some .i64) N),some (.imap .i64 none m),some (.cells [.int .i64 t,.int .i64 n,.slice 9 (j+Int.toNat 1*1) (l - Int.toNat 1) 1]),some (.ints (some .i64) gs),some (.cells [.int .i64 s.1,.int .i64 s.2,.slice 11 0 (List.length (aS s.3 (n+4+List.getD gs (j+Int.toNat 0*1) 0) (WU (aB s.3 (n+4+List.getD gs (j+Int.toNat 0*1) 0)+1)))) 1,.int .i64 (s.4+1),.int .i64 4,.int .i64 (n+4+List.getD gs (j+Int.toNat 0*1) 0),.int .u64 (aB s.3 (n+4+List.getD gs (j+Int.toNat 0*1) 0)),.int .u64 (bif bS s.3 (n+4+List.getD gs (j+Int.toNat 0*1) 0)then WU (aB s.3 (n+4+List.getD gs (j+Int.toNat 0*1) 0)+1)else 0),.bool (bS s.3 (n+4+List.getD gs (j+Int.toNat 0*1) 0))]),some (.ints (some .u64) (aS s.3 (n+4+List.getD gs (j+Int.toNat 0*1) 0) (WU (aB s.3 (n+4+List.getD gs (j+Int.toNat 0*1) 0)+1))))]else K (.bool true) [some (.cells [.ptr 1 0,.ptr 3 0]),some (.cells [.int .i64 t,.int .i64 n,.int .i64 me,.int .i64 sp,.slice 4 0 ks.length 1]),some (.ints (some .i64) R),some (.cells [.int .i64 t,.int .i64 n,.slice 4 0 ks.length 1,.slice 5 0 fs.length 1,.slice 6 0 N.length 1,.map 7,.int .i64 i,.ptr 8 0]),some (.ints (some .i64) ks),some (.ints (some .i64) fs),some (.ints (some .i64) N),some (.imap .i64 none m),some (.cells [.int .i64 t,.int .i64 n,.slice 9 (j+Int.toNat 1*1) (l - Int.toNat 1) 1]),some (.ints (some .i64) gs),some (.cells [.int .i64 s.1,.int .i64 s.2,.slice 11 0 (List.length (aS s.3 (n+4+List.getD gs (j+Int.toNat 0*1) 0) (WU (aB s.3 (n+4+List.getD gs (j+Int.toNat 0*1) 0)+1)))) 1,.int .i64 (s.4+1),.int .i64 4,.int .i64 (n+4+List.getD gs (j+Int.toNat 0*1) 0),.int .u64 (aB s.3 (n+4+List.getD gs (j+Int.toNat 0*1) 0)),.int .u64 (bif bS s.3 (n+4+List.getD gs (j+Int.toNat 0*1) 0)then WU (aB s.3 (n+4+List.getD gs (j+Int.toNat 0*1) 0)+1)else 0),.bool (bS s.3 (n+4+List.getD gs (j+Int.toNat 0*1) 0))]),some (.ints (some .u64) (aS s.3 (n+4+List.getD gs (j+Int.toNat 0*1) 0) (WU (aB s.3 (n+4+List.getD gs (j+Int.toNat 0*1) 0)+1))))]else((((0:Int)≤t∧t≤(100000:Int))∧((0:Int)≤n∧n≤(100000:Int))∧((-1099511627776:Int)≤(0:Int)∧(0:Int)≤(1099511627776:Int))∧(-1099511627776:Int)≤i∧i≤(1099511627776:Int))∧True)∧((lE' s.3∧(0:Int)≤s.4∧s.4≤(4611686018427387904:Int))∧True)∧((((0:Int)≤t∧t≤(100000:Int))∧(0:Int)≤n∧n≤(100000:Int))∧True)∧bif ieq (W (i+1)) (2*t)then False else K (.bool false) [some (.cells [.ptr 1 0,.ptr 3 0]),some (.cells [.int .i64 t,.int .i64 n,.int .i64 me,.int .i64 sp,.slice 2 0 R.length 1]),some (.ints (some .i64) R),some (.cells [.int .i64 t,.int .i64 n,.slice 4 0 ks.length 1,.slice 5 0 fs.length 1,.slice 6 0 N.length 1,.map 7,.int .i64 (W (i+1)),.ptr 8 0]),some (.ints (some .i64) ks),some (.ints (some .i64) fs),some (.ints (some .i64) N),some (.imap .i64 none (cL m (W (aB s.3 (2*n+5+2*0+i))) 1)),some (.cells [.int .i64 t,.int .i64 n,.slice 9 j l 1]),some (.ints (some .i64) gs),some (.cells [.int .i64 s.1,.int .i64 s.2,.slice 11 0 s.3.length 1,.int .i64 (s.4+1),.int .i64 1,.int .i64 (2*n+5+2*0+i),.int .u64 (aB s.3 (2*n+5+2*0+i)),.int .u64 (aB s.3 (2*n+5+2*0+i)),.bool (bS s.3 (2*n+5+2*0+i))]),some (.ints (some .u64) s.3)]) (by kernel_rfl) ?_)
 refine⟨⟨by omega,trivial⟩,uQ (fun h=>JJ (fun h0=>by omega) (fun _=>⟨by omega,by omega,⟨by omega,trivial⟩,⟨⟨rfl,by omega⟩,trivial⟩,by omega,?_⟩)) (fun h=>by omega)⟩
 have e:l - Int.toNat 1=l - 1:=rfl;rw [e];cases h1:ieq ((l - 1:Nat):Int) 0 with
 | false=>rw [h1]at hK;exact hK
 | true=>rw [h1]at hK;exact hK
theorem YH:aG.ok E35.I Tryz.prog 195 swS1:=by
 intro args h o ho K hK;unfold swS1 at ho;split at ho
 case h_2=>cases ho
 split at ho<;>cases ho
 rename_i hm;obtain⟨⟨⟨hl,hk⟩,ht,hn,hc,hR⟩,hK⟩:=hK;have hh:=bB hm hl;cases hh;subst hk;exact aCD _ _ _ _ _ _ K ht hn hc hR hK
theorem YI:aG.ok E35.I Tryz.prog 195 swS2:=by
 intro args h o ho K hK;unfold swS2 at ho;split at ho
 case h_2=>cases ho
 split at ho<;>cases ho
 rename_i hm;obtain⟨⟨⟨hl,hk,hk',h1,h2⟩,ht,hn,hc,hN,hi⟩,hK⟩:=hK;have hh:=bB hm hl;cases hh;subst hk hk' h1 h2;exact aCE _ _ _ _ _ _ _ _ _ K ht hn hc hN hi hK
theorem YJ:aG.ok E35.I Tryz.prog 195 swS3:=by
 intro args h o ho K hK;unfold swS3 at ho;split at ho
 case h_2=>cases ho
 split at ho<;>cases ho
 rename_i hm;obtain⟨⟨⟨hl,hk,hk1,hk2,hk3,h1,h2,h3,h4⟩,ht,hn,hc,hi,hl',hg⟩,hK⟩:=hK;have hh:=bB hm hl;cases hh;subst hk hk1 hk2 hk3 h1 h2 h3 h4;exact aCF _ _ _ _ _ _ _ _ _ _ _ _ _ _ K ht hn hc hi hl' hg hK
theorem pJ:aG.ok E35.I Tryz.prog 195 swStepS:=by
 intro args h o ho;unfold swStepS at ho;split at ho
 ·rename_i e;cases ho;exact YH _ _ _ e
 ·split at ho
  ·rename_i e;cases ho;exact YI _ _ _ e
  ·exact YJ _ _ _ ho
noncomputable def E36:=E35.addS 195 swStepS pJ
def alH(t n:Int)(x:AL)(s:MS):aD Ob:=[some (.cells [.int .i64 t,.int .i64 n,.int .i64 x.got,.int .i64 x.at',.int .i64 x.left,.int .u64 x.found,.bool x.free]),some (.cells [.int .i64 s.t,.int .i64 s.n,.slice 2 0 s.xs.length 1,.int .i64 s.c,.int .i64 s.k,.int .i64 s.a,.int .u64 s.o,.int .u64 s.w,.bool s.ok]),some (.ints (some .u64) s.xs)]
def oddB(y:Int):Bool:=!ieq (Int.tmod y 2) 0
def cP(n a:Int):Int:=Int.tmod a n+1
def Z3(t n:Int)(x:AL)(s:MS):Out Ob:=.ite x.free
 (.ite (aT s.xs (n+4+x.at') x.found) (.ret (.bool true) (alH t n ⟨x.at',x.at',x.left,x.found,true⟩ (s.cased (n+4+x.at') x.found (WU (x.found+1)))))
   (.ret (.bool (ile (x.left - 1) 0)) (alH t n ⟨x.got,cP n x.at',x.left - 1,x.found,false⟩ (s.cased (n+4+x.at') x.found (WU (x.found+1))))))
 (.ite (oddB (aB s.xs (n+4+x.at'))) (.ret (.bool (ile (x.left - 1) 0)) (alH t n ⟨x.got,cP n x.at',x.left - 1,aB s.xs (n+4+x.at'),false⟩ (s.loadd (n+4+x.at'))))
   (.ret (.bool false) (alH t n ⟨x.got,x.at',x.left,aB s.xs (n+4+x.at'),true⟩ (s.loadd (n+4+x.at')))))
theorem T3(t n:Int)(x:AL)(s:MS)(K:AVal→aD Ob→Prop)(ht:1≤t∧t≤1000)(hn:1≤n∧n≤1000)(ha:1≤x.at'∧x.at'≤n)(hl:0≤x.left∧x.left≤1000)(hc:0≤s.c∧s.c≤1000000)(hK:(Z3 t n x s).run K):aC E36.I Tryz.prog 145 [.ptr 0 0,.ptr 1 0] (alH t n x s) K:=by
 refine aFQ (cM' (E:=E36) (q:=bif !x.5 then((((0:Int)≤t∧t≤(100000:Int))∧((0:Int)≤n∧n≤(100000:Int))∧(-1099511627776:Int)≤x.2∧x.2≤(1099511627776:Int))∧True)∧((lE' s.3∧(0:Int)≤s.4∧s.4≤(4611686018427387904:Int))∧True)∧(2:Int)≠(0:Int)∧bif !ieq (Int.tmod (aB s.3 (n+4+x.2)) 2) 0 then n≠(0:Int)∧K (.bool (ile (W (x.3 - 1)) 0)) [some (.cells [.int .i64 t,.int .i64 n,.int .i64 x.1,.int .i64 (W (Int.tmod x.2 n+1)),.int .i64 (W (x.3 - 1)),.int .u64 (aB s.3 (n+4+x.2)),.bool false]),some (.cells [.int .i64 s.1,.int .i64 s.2,.slice 2 0 s.3.length 1,.int .i64 (s.4+1),.int .i64 1,.int .i64 (n+4+x.2),.int .u64 (aB s.3 (n+4+x.2)),.int .u64 (aB s.3 (n+4+x.2)),.bool (bS s.3 (n+4+x.2))]),some (.ints (some .u64) s.3)]else K (.bool false) [some (.cells [.int .i64 t,.int .i64 n,.int .i64 x.1,.int .i64 x.2,.int .i64 x.3,.int .u64 (aB s.3 (n+4+x.2)),.bool (ieq (Int.tmod (aB s.3 (n+4+x.2)) 2) 0)]),some (.cells [.int .i64 s.1,.int .i64 s.2,.slice 2 0 s.3.length 1,.int .i64 (s.4+1),.int .i64 1,.int .i64 (n+4+x.2),.int .u64 (aB s.3 (n+4+x.2)),.int .u64 (aB s.3 (n+4+x.2)),.bool (bS s.3 (n+4+x.2))]),some (.ints (some .u64) s.3)]else((((0:Int)≤t∧t≤(100000:Int))∧((0:Int)≤n∧n≤(100000:Int))∧(-1099511627776:Int)≤x.2∧x.2≤(1099511627776:Int))∧True)∧((lE' s.3∧(0:Int)≤s.4∧s.4≤(4611686018427387904:Int))∧True)∧bif aT s.3 (n+4+x.2) x.4 then K (.bool true) [some (.cells [.int .i64 t,.int .i64 n,.int .i64 x.2,.int .i64 x.2,.int .i64 x.3,.int .u64 x.4,.bool x.5]),some (.cells [.int .i64 s.1,.int .i64 s.2,.slice 2 0 (List.length (bif aT s.3 (n+4+x.2) x.4 then aS s.3 (n+4+x.2) (WU (x.4+1))else s.3)) 1,.int .i64 (s.4+1),.int .i64 3,.int .i64 (n+4+x.2),.int .u64 (aB s.3 (n+4+x.2)),.int .u64 (bif bS s.3 (n+4+x.2)then WU (x.4+1)else 0),.bool (aT s.3 (n+4+x.2) x.4)]),some (.ints (some .u64) (bif aT s.3 (n+4+x.2) x.4 then aS s.3 (n+4+x.2) (WU (x.4+1))else s.3))]else n≠(0:Int)∧K (.bool (ile (W (x.3 - 1)) 0)) [some (.cells [.int .i64 t,.int .i64 n,.int .i64 x.1,.int .i64 (W (Int.tmod x.2 n+1)),.int .i64 (W (x.3 - 1)),.int .u64 x.4,.bool false]),some (.cells [.int .i64 s.1,.int .i64 s.2,.slice 2 0 (List.length (bif aT s.3 (n+4+x.2) x.4 then aS s.3 (n+4+x.2) (WU (x.4+1))else s.3)) 1,.int .i64 (s.4+1),.int .i64 3,.int .i64 (n+4+x.2),.int .u64 (aB s.3 (n+4+x.2)),.int .u64 (bif bS s.3 (n+4+x.2)then WU (x.4+1)else 0),.bool (aT s.3 (n+4+x.2) x.4)]),some (.ints (some .u64) (bif aT s.3 (n+4+x.2) x.4 then aS s.3 (n+4+x.2) (WU (x.4+1))else s.3))]) (by kernel_rfl) ?_)
 obtain⟨got,at',left,found,free⟩:=x;dsimp only at ha hl⊢;have hm:=YO (x:=at') (t:=n) (by omega) (by omega)
 have e1:W (left - 1)=left - 1:=vM (by omega)
 have e2:W (Int.tmod at' n+1)=cP n at':=vM (by show _≤Int.tmod at' n+1∧Int.tmod at' n+1≤_;omega)
 rw [e1,e2];unfold Z3 at hK;dsimp only [Out.run]at hK;cases free with
 | false=>
   simp only [cond_false,Bool.not_false,cond_true]at hK⊢;refine⟨⟨by omega,trivial⟩,⟨⟨trivial,by omega⟩,trivial⟩,by omega,?_⟩
   unfold oddB at hK;generalize ho:ieq (Int.tmod (aB s.xs (n+4+at')) 2) 0=b at hK⊢;cases b with
   | false=>exact⟨by omega,hK⟩
   | true=>exact hK
 | true=>
   simp only [cond_true,Bool.not_true,cond_false]at hK⊢;refine⟨⟨by omega,trivial⟩,⟨⟨trivial,by omega⟩,trivial⟩,?_⟩
   unfold alH at hK;cases hb:aT s.xs (n+4+at') found with
   | true=>
     rw [hb]at hK;simp only [cond_true]at hK⊢;unfold MS.cased at hK;rw [hb]at hK;exact hK
   | false=>
     rw [hb]at hK;simp only [cond_false]at hK⊢;unfold MS.cased at hK;rw [hb]at hK;exact⟨by omega,hK⟩
noncomputable def alS:aG Ob:=fun args h=>match args,h with
 | [.ptr 0 0,.ptr 1 0],[some (.cells [.int .i64 t,.int .i64 n,.int .i64 got,.int .i64 at',.int .i64 left,.int .u64 found,.bool free]),e1,e2]=>match cU 2 [e1,e2]with
   | some (l,s)=>some (.pre (l=s.xs.length∧(1≤t∧t≤1000)∧(1≤n∧n≤1000)∧(1≤at'∧at'≤n)∧(0≤left∧left≤1000)∧(0≤s.c∧s.c≤1000000)) (Z3 t n ⟨got,at',left,found,free⟩ s))
   | none=>none
 | _,_=>none
theorem aDe:aG.ok E36.I Tryz.prog 145 alS:=by
 intro args h o ho K hK;unfold alS at ho;split at ho
 case h_2=>cases ho
 split at ho<;>cases ho
 rename_i hm;obtain⟨⟨hl,ht,hn,ha,hl',hc⟩,hK⟩:=hK;have hh:=bB hm hl;cases hh;exact T3 _ _ _ _ K ht hn ha hl' hc hK
noncomputable def E42:=E36.addS 145 alS aDe
theorem eH{xs:List Int}(h:okW xs){a x:Int}(hx:0≤x∧x≤18446744073709551615):okW (aS xs a x):=by
 unfold aS;split
 ·refine⟨fun y hy=>?_⟩;rcases List.mem_or_eq_of_mem_set hy with h1 | h1
  ·exact h.h y h1
  ·subst h1;exact hx
 ·exact h
theorem sU(x:Int):0≤WU x∧WU x≤18446744073709551615:=by
 unfold WU;simp only [IntKind.wrap,IntKind.bits,IntKind.signed]
 simp
 omega
theorem gC(m:List (Int×Int))(k v r:Int):mget (cL m k v) r=if r=k then some v else mget m r:=by
 induction m with
 | nil=>
   unfold cL mget
   by_cases h:r=k
   ·subst h;simp
   ·have h': ¬k=r:=fun c=>h c.symm;simp [h,h']
 | cons x m ih=>
   unfold cL
   by_cases hx:x.1=k
   ·rw [if_pos hx];unfold mget
    by_cases h:r=k
    ·subst h;simp
    ·have h': ¬k=r:=fun c=>h c.symm;have h2: ¬x.1=r:=by rw [hx];exact h'
     simp [h,h',h2]
   ·rw [if_neg hx];unfold mget at ih⊢
    by_cases h2:x.1=r
    ·have h3: ¬r=k:=by rw [←h2];exact hx
     simp [h2,h3]
    ·simp only [List.find?_cons,beq_iff_eq,h2];have h4:(x.1 == r)=false:=by simpa using h2
     rw [h4];exact ih
theorem NW(m:List (Int×Int))(k r:Int):mhas (cL m k 1) r=(decide (r=k)||mhas m r):=by
 unfold mhas;rw [gC]
 by_cases h:r=k
 ·rw [if_pos h,decide_eq_true h];rfl
 ·rw [if_neg h,decide_eq_false h];rfl
structure EO where
 d:Bool
 e:ENS
 st:STS
 s:MS
def at0(t n me:Int):Int:=bif bK n (aQ t n me)then aQ t n me else 1
def AT(e:ENS)(st:STS)(x:AL)(s:MS):EO:=match ile x.left 0 with
 | true=>⟨e.dn||ieq (st.R.length:Int) 0,{e with ph:=2,sh:=e.dn||ieq (st.R.length:Int) 0,x:=x},{st with sp:=0},s⟩
 | false=>⟨false,{e with ph:=1,x:=x},st,s⟩
def jU(n:Int)(e:ENS)(st:STS)(x:AL)(s:MS):EO:=match x.free with
 | true=>(match aT s.xs (n+4+x.at') x.found with
   | true=>⟨true,{e with ph:=1,x:=⟨x.at',x.at',x.left,x.found,true⟩ },{st with sp:=x.at'},s.cased (n+4+x.at') x.found (WU (x.found+1))⟩
   | false=>AT e st ⟨0,cP n x.at',x.left - 1,x.found,false⟩ (s.cased (n+4+x.at') x.found (WU (x.found+1))))
 | false=>(match oddB (aB s.xs (n+4+x.at'))with
   | true=>AT e st ⟨0,cP n x.at',x.left - 1,aB s.xs (n+4+x.at'),false⟩ (s.loadd (n+4+x.at'))
   | false=>⟨false,{e with ph:=1,x:=⟨0,x.at',x.left,aB s.xs (n+4+x.at'),true⟩ },st,s.loadd (n+4+x.at')⟩)
instance:Inhabited EO:=⟨⟨false,aU,⟨0,0,[]⟩,⟨0,0,[],0,0,0,0,0,false⟩⟩⟩
def enF(t n:Int)(e:ENS)(st:STS)(s:MS):EO:=match e.ph with
 | 0=>(match ieq st.sp 0 with
   | true=>jU n e st ⟨0,at0 t n st.me,n,0,false⟩ s
   | false=>⟨true,e,st,s.loadd 0⟩)
 | 1=>jU n e st e.x s
 | 2=>⟨false,{e with ph:=3,y:= {e.y with N:=st.R,m:=aV [] n 0 s,i:=1} },st,s.loadd (bL n 0)⟩
 | 3=>(match ieq (e.y.i+1) (2*t),ieq ((aX (aV e.y.m n e.y.i s) e.y.N).length :Int) 0 with
   | true,true=>⟨true,{e with ph:=0,sh:=true,dn:=true},{st with R:=cK (aV e.y.m n e.y.i s) e.y.N},s.loadd (bL n e.y.i)⟩
   | true,false=>⟨false,{e with ph:=4,y:=⟨0,e.y.N,aV e.y.m n e.y.i s,e.y.i+1,cK (aV e.y.m n e.y.i s) e.y.N,aX (aV e.y.m n e.y.i s) e.y.N,aX (aV e.y.m n e.y.i s) e.y.N,0,(aX (aV e.y.m n e.y.i s) e.y.N).length⟩ },st,s.loadd (bL n e.y.i)⟩
   | false,_=>⟨false,{e with y:= {e.y with m:=aV e.y.m n e.y.i s,i:=e.y.i+1} },st,s.loadd (bL n e.y.i)⟩)
 | _=>(match ieq ((e.y.l - 1:Nat):Int) 0 with
   | true=>⟨ieq (e.y.fs.length:Int) 0,{e with ph:=0,sh:=ieq (e.y.fs.length:Int) 0,dn:=true},{st with R:=e.y.ks},s.added (bZ n e.y.gs e.y.j) 1⟩
   | false=>⟨false,{e with y:= {e.y with j:=e.y.j+1,l:=e.y.l - 1} },st,s.added (bZ n e.y.gs e.y.j) 1⟩)
structure okAl (n:Int) (x:AL):Prop where
 hg:x.got=0
 ha:1≤x.at'∧x.at'≤n
 hl:0≤x.left∧x.left≤1000
def aEi(t n:Int)(e:ENS)(st:STS):Prop:=match e.ph with
 | 0=>True
 | 1=>okAl n e.x
 | 2=>True
 | 3=>e.y.N.length≤1000000∧0≤e.y.i∧e.y.i<2*t
 | 4=>2*t≤e.y.i∧1≤e.y.l∧e.y.gs.length=e.y.j+e.y.l∧ -1000000≤List.getD e.y.gs (e.y.j+Int.toNat 0*1) 0∧List.getD e.y.gs (e.y.j+Int.toNat 0*1) 0≤1000000
 | _=>False
structure okE (t n:Int) (e:ENS) (st:STS) (s:MS):Prop where
 ht:1≤t∧t≤1000
 hn:1≤n∧n≤1000
 hc:0≤s.c∧s.c≤1000000
 hm:0≤st.me∧st.me≤1000
 hR:st.R.length≤1000000
 ho:aEi t n e st
abbrev aY(l:Nat)(s:MS):Option (aM Mc):=some (.cells [.int .i64 s.t,.int .i64 s.n,.slice l 0 s.xs.length 1,.int .i64 s.c,.int .i64 s.k,.int .i64 s.a,.int .u64 s.o,.int .u64 s.w,.bool s.ok])
abbrev aZ(s:MS):Option (aM Mc):=some (.ints (some .u64) s.xs)
def VM(t n:Int)(e:ENS)(st:STS)(s:MS):aD Ob:=[some (.abs (.ensure t n e) [1]),some (.abs (.store t n st) []),aY 3 s,aZ s]
def EO.left(o:EO)(t n:Int)(K:AVal→aD Ob→Prop):Prop:=K (.bool o.d) (VM t n o.e o.st o.s)
theorem gO{K:AVal→aD Ob→Prop}{t n:Int}{o:EO}{g':aD Ob}(pl:List Nat)(hK:o.left t n K)
 (hb:(fD pl g'.length&&kO pl 0 4&&uY 1 (JD t n o.e))=true)
 (hT:gU pl g'=bA [some (.abs (.ensure t n o.e) [1]),some (.cells [.int .i64 t,.int .i64 n,.int .i64 o.st.me,.int .i64 o.st.sp,.slice 4 0 o.st.R.length 1]),aY 3 o.s,aZ o.s,some (.ints (some .i64) o.st.R)] 0 1 (JD t n o.e) [1]):CC tbl 4 (CC tbl 4 K) (.bool o.d) g':=by
 simp only [Bool.and_eq_true]at hb;obtain⟨⟨b1,b2⟩,b3⟩:=hb;refine⟨pl,_,.ensure t n o.e,0,1,_,[1],?_,hT,rfl,rfl,⟨[0,1,2,3,4],[some (.abs (.ensure t n o.e) [1]),some (.abs (.store t n o.st) []),aY 3 o.s,aZ o.s],.store t n o.st,1,0,dJ t n o.st,[],rfl,rfl,rfl,rfl,?_⟩⟩
 ·rw [b1,b2,b3];rfl
 ·exact hK
theorem aE9(t n me sp:Int)(R:List Int)(sh dn:Bool)(x:AL)(y:SWS)(s:MS)(K:AVal→aD Ob→Prop)(hK:bif !ieq sp 0 then(lE' s.3∧(0:Int)≤s.4∧s.4≤(4611686018427387904:Int))∧K (.bool true) [some (.cells [.ptr 1 0,.bool sh,.raw (Value.pointer none),.raw (Value.pointer none),.bool dn]),some (.cells [.int .i64 t,.int .i64 n,.int .i64 me,.int .i64 sp,.slice 4 0 R.length 1]),some (.cells [.int .i64 s.1,.int .i64 s.2,.slice 3 0 s.3.length 1,.int .i64 (s.4+1),.int .i64 1,.int .i64 0,.int .u64 (aB s.3 0),.int .u64 (aB s.3 0),.bool (bS s.3 0)]),some (.ints (some .u64) s.3),some (.ints (some .i64) R)]else(((0:Int)≤me∧me≤(100000:Int))∧(0:Int)≤n∧n≤(100000:Int))∧(True∧True)∧(lE' s.3∧((1:Int)≤t∧t≤(1000:Int))∧((1:Int)≤n∧n≤(1000:Int))∧(((1:Int)≤bif bK n (aQ t n me)then aQ t n me else 1)∧(bif bK n (aQ t n me)then aQ t n me else 1)≤n)∧((0:Int)≤n∧n≤(1000:Int))∧(0:Int)≤s.4∧s.4≤(1000000:Int))∧bif oddB (aB s.3 (n+4+bif bK n (aQ t n me)then aQ t n me else 1))then bif !ile (n - 1) 0 then K (.bool false) [some (.cells [.ptr 1 0,.bool sh,.ptr 5 0,.raw (Value.pointer none),.bool dn]),some (.cells [.int .i64 t,.int .i64 n,.int .i64 me,.int .i64 sp,.slice 4 0 R.length 1]),some (.cells [.int .i64 s.1,.int .i64 s.2,.slice 3 0 s.3.length 1,.int .i64 (s.4+1),.int .i64 1,.int .i64 (n+4+bif bK n (aQ t n me)then aQ t n me else 1),.int .u64 (aB s.3 (n+4+bif bK n (aQ t n me)then aQ t n me else 1)),.int .u64 (aB s.3 (n+4+bif bK n (aQ t n me)then aQ t n me else 1)),.bool (bS s.3 (n+4+bif bK n (aQ t n me)then aQ t n me else 1))]),some (.ints (some .u64) s.3),some (.ints (some .i64) R),some (.cells [.int .i64 t,.int .i64 n,.int .i64 0,.int .i64 (cP n (bif bK n (aQ t n me)then aQ t n me else 1)),.int .i64 (n - 1),.int .u64 (aB s.3 (n+4+bif bK n (aQ t n me)then aQ t n me else 1)),.bool false])]else bif dn then K (.bool true) [some (.cells [.ptr 1 0,.bool true,.ptr 5 0,.ptr 6 0,.bool dn]),some (.cells [.int .i64 t,.int .i64 n,.int .i64 me,.int .i64 0,.slice 4 0 R.length 1]),some (.cells [.int .i64 s.1,.int .i64 s.2,.slice 3 0 s.3.length 1,.int .i64 (s.4+1),.int .i64 1,.int .i64 (n+4+bif bK n (aQ t n me)then aQ t n me else 1),.int .u64 (aB s.3 (n+4+bif bK n (aQ t n me)then aQ t n me else 1)),.int .u64 (aB s.3 (n+4+bif bK n (aQ t n me)then aQ t n me else 1)),.bool (bS s.3 (n+4+bif bK n (aQ t n me)then aQ t n me else 1))]),some (.ints (some .u64) s.3),some (.ints (some .i64) R),some (.cells [.int .i64 t,.int .i64 n,.int .i64 0,.int .i64 (cP n (bif bK n (aQ t n me)then aQ t n me else 1)),.int .i64 (n - 1),.int .u64 (aB s.3 (n+4+bif bK n (aQ t n me)then aQ t n me else 1)),.bool false]),some (.cells [.ptr 1 0,.raw (Value.pointer none)])]else K (.bool (ieq (↑R.length:Int) 0)) [some (.cells [.ptr 1 0,.bool (ieq (↑R.length:Int) 0),.ptr 5 0,.ptr 6 0,.bool dn]),some (.cells [.int .i64 t,.int .i64 n,.int .i64 me,.int .i64 0,.slice 4 0 R.length 1]),some (.cells [.int .i64 s.1,.int .i64 s.2,.slice 3 0 s.3.length 1,.int .i64 (s.4+1),.int .i64 1,.int .i64 (n+4+bif bK n (aQ t n me)then aQ t n me else 1),.int .u64 (aB s.3 (n+4+bif bK n (aQ t n me)then aQ t n me else 1)),.int .u64 (aB s.3 (n+4+bif bK n (aQ t n me)then aQ t n me else 1)),.bool (bS s.3 (n+4+bif bK n (aQ t n me)then aQ t n me else 1))]),some (.ints (some .u64) s.3),some (.ints (some .i64) R),some (.cells [.int .i64 t,.int .i64 n,.int .i64 0,.int .i64 (cP n (bif bK n (aQ t n me)then aQ t n me else 1)),.int .i64 (n - 1),.int .u64 (aB s.3 (n+4+bif bK n (aQ t n me)then aQ t n me else 1)),.bool false]),some (.cells [.ptr 1 0,.raw (Value.pointer none)])]else K (.bool false) [some (.cells [.ptr 1 0,.bool sh,.ptr 5 0,.raw (Value.pointer none),.bool dn]),some (.cells [.int .i64 t,.int .i64 n,.int .i64 me,.int .i64 sp,.slice 4 0 R.length 1]),some (.cells [.int .i64 s.1,.int .i64 s.2,.slice 3 0 s.3.length 1,.int .i64 (s.4+1),.int .i64 1,.int .i64 (n+4+bif bK n (aQ t n me)then aQ t n me else 1),.int .u64 (aB s.3 (n+4+bif bK n (aQ t n me)then aQ t n me else 1)),.int .u64 (aB s.3 (n+4+bif bK n (aQ t n me)then aQ t n me else 1)),.bool (bS s.3 (n+4+bif bK n (aQ t n me)then aQ t n me else 1))]),some (.ints (some .u64) s.3),some (.ints (some .i64) R),some (.cells [.int .i64 t,.int .i64 n,.int .i64 0,.int .i64 (bif bK n (aQ t n me)then aQ t n me else 1),.int .i64 n,.int .u64 (aB s.3 (n+4+bif bK n (aQ t n me)then aQ t n me else 1)),.bool true])]):cT' 85 [.ptr 0 0,.ptr 2 0] [some (.cells [.ptr 1 0,.bool sh,.raw (.pointer none),.raw (.pointer none),.bool dn]),some (.cells [.int .i64 t,.int .i64 n,.int .i64 me,.int .i64 sp,.slice 4 0 R.length 1]),aY 3 s,aZ s,some (.ints (some .i64) R)] K:=by
 refine aFQ (cM' (E:=E42) (by kernel_rfl) hK)
theorem aFa(t n me sp:Int)(R:List Int)(sh dn:Bool)(x:AL)(y:SWS)(s:MS)(K:AVal→aD Ob→Prop)(hK:(lE' s.3∧((1:Int)≤t∧t≤(1000:Int))∧((1:Int)≤n∧n≤(1000:Int))∧((1:Int)≤x.2∧x.2≤n)∧((0:Int)≤x.3∧x.3≤(1000:Int))∧(0:Int)≤s.4∧s.4≤(1000000:Int))∧bif x.5 then bif aT s.3 (n+4+x.2) x.4 then bif !ieq x.2 0 then K (.bool true) [some (.cells [.ptr 1 0,.bool sh,.ptr 5 0,.raw (Value.pointer none),.bool dn]),some (.cells [.int .i64 t,.int .i64 n,.int .i64 me,.int .i64 x.2,.slice 4 0 R.length 1]),some (.cells [.int .i64 s.1,.int .i64 s.2,.slice 3 0 (List.length (bif aT s.3 (n+4+x.2) x.4 then aS s.3 (n+4+x.2) (WU (x.4+1))else s.3)) 1,.int .i64 (s.4+1),.int .i64 3,.int .i64 (n+4+x.2),.int .u64 (aB s.3 (n+4+x.2)),.int .u64 (bif bS s.3 (n+4+x.2)then WU (x.4+1)else 0),.bool (aT s.3 (n+4+x.2) x.4)]),some (.ints (some .u64) (bif aT s.3 (n+4+x.2) x.4 then aS s.3 (n+4+x.2) (WU (x.4+1))else s.3)),some (.ints (some .i64) R),some (.cells [.int .i64 t,.int .i64 n,.int .i64 x.2,.int .i64 x.2,.int .i64 x.3,.int .u64 x.4,.bool true])]else bif dn then K (.bool true) [some (.cells [.ptr 1 0,.bool true,.ptr 5 0,.ptr 6 0,.bool dn]),some (.cells [.int .i64 t,.int .i64 n,.int .i64 me,.int .i64 x.2,.slice 4 0 R.length 1]),some (.cells [.int .i64 s.1,.int .i64 s.2,.slice 3 0 (List.length (bif aT s.3 (n+4+x.2) x.4 then aS s.3 (n+4+x.2) (WU (x.4+1))else s.3)) 1,.int .i64 (s.4+1),.int .i64 3,.int .i64 (n+4+x.2),.int .u64 (aB s.3 (n+4+x.2)),.int .u64 (bif bS s.3 (n+4+x.2)then WU (x.4+1)else 0),.bool (aT s.3 (n+4+x.2) x.4)]),some (.ints (some .u64) (bif aT s.3 (n+4+x.2) x.4 then aS s.3 (n+4+x.2) (WU (x.4+1))else s.3)),some (.ints (some .i64) R),some (.cells [.int .i64 t,.int .i64 n,.int .i64 x.2,.int .i64 x.2,.int .i64 x.3,.int .u64 x.4,.bool true]),some (.cells [.ptr 1 0,.raw (Value.pointer none)])]else K (.bool (ieq (↑R.length:Int) 0)) [some (.cells [.ptr 1 0,.bool (ieq (↑R.length:Int) 0),.ptr 5 0,.ptr 6 0,.bool dn]),some (.cells [.int .i64 t,.int .i64 n,.int .i64 me,.int .i64 x.2,.slice 4 0 R.length 1]),some (.cells [.int .i64 s.1,.int .i64 s.2,.slice 3 0 (List.length (bif aT s.3 (n+4+x.2) x.4 then aS s.3 (n+4+x.2) (WU (x.4+1))else s.3)) 1,.int .i64 (s.4+1),.int .i64 3,.int .i64 (n+4+x.2),.int .u64 (aB s.3 (n+4+x.2)),.int .u64 (bif bS s.3 (n+4+x.2)then WU (x.4+1)else 0),.bool (aT s.3 (n+4+x.2) x.4)]),some (.ints (some .u64) (bif aT s.3 (n+4+x.2) x.4 then aS s.3 (n+4+x.2) (WU (x.4+1))else s.3)),some (.ints (some .i64) R),some (.cells [.int .i64 t,.int .i64 n,.int .i64 x.2,.int .i64 x.2,.int .i64 x.3,.int .u64 x.4,.bool true]),some (.cells [.ptr 1 0,.raw (Value.pointer none)])]else bif !ile (x.3 - 1) 0 then K (.bool false) [some (.cells [.ptr 1 0,.bool sh,.ptr 5 0,.raw (Value.pointer none),.bool dn]),some (.cells [.int .i64 t,.int .i64 n,.int .i64 me,.int .i64 sp,.slice 4 0 R.length 1]),some (.cells [.int .i64 s.1,.int .i64 s.2,.slice 3 0 (List.length (bif aT s.3 (n+4+x.2) x.4 then aS s.3 (n+4+x.2) (WU (x.4+1))else s.3)) 1,.int .i64 (s.4+1),.int .i64 3,.int .i64 (n+4+x.2),.int .u64 (aB s.3 (n+4+x.2)),.int .u64 (bif bS s.3 (n+4+x.2)then WU (x.4+1)else 0),.bool (aT s.3 (n+4+x.2) x.4)]),some (.ints (some .u64) (bif aT s.3 (n+4+x.2) x.4 then aS s.3 (n+4+x.2) (WU (x.4+1))else s.3)),some (.ints (some .i64) R),some (.cells [.int .i64 t,.int .i64 n,.int .i64 x.1,.int .i64 (cP n x.2),.int .i64 (x.3 - 1),.int .u64 x.4,.bool false])]else bif !ieq x.1 0 then K (.bool true) [some (.cells [.ptr 1 0,.bool sh,.ptr 5 0,.raw (Value.pointer none),.bool dn]),some (.cells [.int .i64 t,.int .i64 n,.int .i64 me,.int .i64 x.1,.slice 4 0 R.length 1]),some (.cells [.int .i64 s.1,.int .i64 s.2,.slice 3 0 (List.length (bif aT s.3 (n+4+x.2) x.4 then aS s.3 (n+4+x.2) (WU (x.4+1))else s.3)) 1,.int .i64 (s.4+1),.int .i64 3,.int .i64 (n+4+x.2),.int .u64 (aB s.3 (n+4+x.2)),.int .u64 (bif bS s.3 (n+4+x.2)then WU (x.4+1)else 0),.bool (aT s.3 (n+4+x.2) x.4)]),some (.ints (some .u64) (bif aT s.3 (n+4+x.2) x.4 then aS s.3 (n+4+x.2) (WU (x.4+1))else s.3)),some (.ints (some .i64) R),some (.cells [.int .i64 t,.int .i64 n,.int .i64 x.1,.int .i64 (cP n x.2),.int .i64 (x.3 - 1),.int .u64 x.4,.bool false])]else bif dn then K (.bool true) [some (.cells [.ptr 1 0,.bool true,.ptr 5 0,.ptr 6 0,.bool dn]),some (.cells [.int .i64 t,.int .i64 n,.int .i64 me,.int .i64 x.1,.slice 4 0 R.length 1]),some (.cells [.int .i64 s.1,.int .i64 s.2,.slice 3 0 (List.length (bif aT s.3 (n+4+x.2) x.4 then aS s.3 (n+4+x.2) (WU (x.4+1))else s.3)) 1,.int .i64 (s.4+1),.int .i64 3,.int .i64 (n+4+x.2),.int .u64 (aB s.3 (n+4+x.2)),.int .u64 (bif bS s.3 (n+4+x.2)then WU (x.4+1)else 0),.bool (aT s.3 (n+4+x.2) x.4)]),some (.ints (some .u64) (bif aT s.3 (n+4+x.2) x.4 then aS s.3 (n+4+x.2) (WU (x.4+1))else s.3)),some (.ints (some .i64) R),some (.cells [.int .i64 t,.int .i64 n,.int .i64 x.1,.int .i64 (cP n x.2),.int .i64 (x.3 - 1),.int .u64 x.4,.bool false]),some (.cells [.ptr 1 0,.raw (Value.pointer none)])]else K (.bool (ieq (↑R.length:Int) 0)) [some (.cells [.ptr 1 0,.bool (ieq (↑R.length:Int) 0),.ptr 5 0,.ptr 6 0,.bool dn]),some (.cells [.int .i64 t,.int .i64 n,.int .i64 me,.int .i64 x.1,.slice 4 0 R.length 1]),some (.cells [.int .i64 s.1,.int .i64 s.2,.slice 3 0 (List.length (bif aT s.3 (n+4+x.2) x.4 then aS s.3 (n+4+x.2) (WU (x.4+1))else s.3)) 1,.int .i64 (s.4+1),.int .i64 3,.int .i64 (n+4+x.2),.int .u64 (aB s.3 (n+4+x.2)),.int .u64 (bif bS s.3 (n+4+x.2)then WU (x.4+1)else 0),.bool (aT s.3 (n+4+x.2) x.4)]),some (.ints (some .u64) (bif aT s.3 (n+4+x.2) x.4 then aS s.3 (n+4+x.2) (WU (x.4+1))else s.3)),some (.ints (some .i64) R),some (.cells [.int .i64 t,.int .i64 n,.int .i64 x.1,.int .i64 (cP n x.2),.int .i64 (x.3 - 1),.int .u64 x.4,.bool false]),some (.cells [.ptr 1 0,.raw (Value.pointer none)])]else bif oddB (aB s.3 (n+4+x.2))then bif !ile (x.3 - 1) 0 then K (.bool false) [some (.cells [.ptr 1 0,.bool sh,.ptr 5 0,.raw (Value.pointer none),.bool dn]),some (.cells [.int .i64 t,.int .i64 n,.int .i64 me,.int .i64 sp,.slice 4 0 R.length 1]),some (.cells [.int .i64 s.1,.int .i64 s.2,.slice 3 0 s.3.length 1,.int .i64 (s.4+1),.int .i64 1,.int .i64 (n+4+x.2),.int .u64 (aB s.3 (n+4+x.2)),.int .u64 (aB s.3 (n+4+x.2)),.bool (bS s.3 (n+4+x.2))]),some (.ints (some .u64) s.3),some (.ints (some .i64) R),some (.cells [.int .i64 t,.int .i64 n,.int .i64 x.1,.int .i64 (cP n x.2),.int .i64 (x.3 - 1),.int .u64 (aB s.3 (n+4+x.2)),.bool false])]else bif !ieq x.1 0 then K (.bool true) [some (.cells [.ptr 1 0,.bool sh,.ptr 5 0,.raw (Value.pointer none),.bool dn]),some (.cells [.int .i64 t,.int .i64 n,.int .i64 me,.int .i64 x.1,.slice 4 0 R.length 1]),some (.cells [.int .i64 s.1,.int .i64 s.2,.slice 3 0 s.3.length 1,.int .i64 (s.4+1),.int .i64 1,.int .i64 (n+4+x.2),.int .u64 (aB s.3 (n+4+x.2)),.int .u64 (aB s.3 (n+4+x.2)),.bool (bS s.3 (n+4+x.2))]),some (.ints (some .u64) s.3),some (.ints (some .i64) R),some (.cells [.int .i64 t,.int .i64 n,.int .i64 x.1,.int .i64 (cP n x.2),.int .i64 (x.3 - 1),.int .u64 (aB s.3 (n+4+x.2)),.bool false])]else bif dn then K (.bool true) [some (.cells [.ptr 1 0,.bool true,.ptr 5 0,.ptr 6 0,.bool dn]),some (.cells [.int .i64 t,.int .i64 n,.int .i64 me,.int .i64 x.1,.slice 4 0 R.length 1]),some (.cells [.int .i64 s.1,.int .i64 s.2,.slice 3 0 s.3.length 1,.int .i64 (s.4+1),.int .i64 1,.int .i64 (n+4+x.2),.int .u64 (aB s.3 (n+4+x.2)),.int .u64 (aB s.3 (n+4+x.2)),.bool (bS s.3 (n+4+x.2))]),some (.ints (some .u64) s.3),some (.ints (some .i64) R),some (.cells [.int .i64 t,.int .i64 n,.int .i64 x.1,.int .i64 (cP n x.2),.int .i64 (x.3 - 1),.int .u64 (aB s.3 (n+4+x.2)),.bool false]),some (.cells [.ptr 1 0,.raw (Value.pointer none)])]else K (.bool (ieq (↑R.length:Int) 0)) [some (.cells [.ptr 1 0,.bool (ieq (↑R.length:Int) 0),.ptr 5 0,.ptr 6 0,.bool dn]),some (.cells [.int .i64 t,.int .i64 n,.int .i64 me,.int .i64 x.1,.slice 4 0 R.length 1]),some (.cells [.int .i64 s.1,.int .i64 s.2,.slice 3 0 s.3.length 1,.int .i64 (s.4+1),.int .i64 1,.int .i64 (n+4+x.2),.int .u64 (aB s.3 (n+4+x.2)),.int .u64 (aB s.3 (n+4+x.2)),.bool (bS s.3 (n+4+x.2))]),some (.ints (some .u64) s.3),some (.ints (some .i64) R),some (.cells [.int .i64 t,.int .i64 n,.int .i64 x.1,.int .i64 (cP n x.2),.int .i64 (x.3 - 1),.int .u64 (aB s.3 (n+4+x.2)),.bool false]),some (.cells [.ptr 1 0,.raw (Value.pointer none)])]else K (.bool false) [some (.cells [.ptr 1 0,.bool sh,.ptr 5 0,.raw (Value.pointer none),.bool dn]),some (.cells [.int .i64 t,.int .i64 n,.int .i64 me,.int .i64 sp,.slice 4 0 R.length 1]),some (.cells [.int .i64 s.1,.int .i64 s.2,.slice 3 0 s.3.length 1,.int .i64 (s.4+1),.int .i64 1,.int .i64 (n+4+x.2),.int .u64 (aB s.3 (n+4+x.2)),.int .u64 (aB s.3 (n+4+x.2)),.bool (bS s.3 (n+4+x.2))]),some (.ints (some .u64) s.3),some (.ints (some .i64) R),some (.cells [.int .i64 t,.int .i64 n,.int .i64 x.1,.int .i64 x.2,.int .i64 x.3,.int .u64 (aB s.3 (n+4+x.2)),.bool true])]):cT' 85 [.ptr 0 0,.ptr 2 0] [some (.cells [.ptr 1 0,.bool sh,.ptr 5 0,.raw (.pointer none),.bool dn]),some (.cells [.int .i64 t,.int .i64 n,.int .i64 me,.int .i64 sp,.slice 4 0 R.length 1]),aY 3 s,aZ s,some (.ints (some .i64) R),YX t n x] K:=by
 refine aFQ (cM' (E:=E42) (by kernel_rfl) hK)
theorem aFb(t n me sp:Int)(R:List Int)(sh dn:Bool)(x:AL)(y:SWS)(s:MS)(K:AVal→aD Ob→Prop)(hK:((lE' s.3∧lE' R)∧((1:Int)≤t∧t≤(1000:Int))∧((1:Int)≤n∧n≤(1000:Int))∧((0:Int)≤s.4∧s.4≤(1000000:Int))∧R.length≤(1000000:Nat))∧K (.bool false) [some (.cells [.ptr 1 0,.bool sh,.ptr 5 0,.ptr 6 0,.bool dn]),some (.cells [.int .i64 t,.int .i64 n,.int .i64 me,.int .i64 sp,.slice 4 0 R.length 1]),some (.cells [.int .i64 s.1,.int .i64 s.2,.slice 3 0 s.3.length 1,.int .i64 (s.4+1),.int .i64 1,.int .i64 (bL n 0),.int .u64 (aB s.3 (bL n 0)),.int .u64 (aB s.3 (bL n 0)),.bool (bS s.3 (bL n 0))]),some (.ints (some .u64) s.3),some (.ints (some .i64) R),some (.cells [.int .i64 t,.int .i64 n,.int .i64 x.1,.int .i64 x.2,.int .i64 x.3,.int .u64 x.4,.bool x.5]),some (.cells [.ptr 1 0,.ptr 7 0]),some (.cells [.int .i64 t,.int .i64 n,.raw (Value.slice none 0 0),.raw (Value.slice none 0 0),.slice 8 0 R.length 1,.map 9,.int .i64 1,.raw (Value.pointer none)]),some (.ints (some .i64) R),some (.imap .i64 none (aV [] n 0 s))]):cT' 85 [.ptr 0 0,.ptr 2 0] [some (.cells [.ptr 1 0,.bool sh,.ptr 5 0,.ptr 6 0,.bool dn]),some (.cells [.int .i64 t,.int .i64 n,.int .i64 me,.int .i64 sp,.slice 4 0 R.length 1]),aY 3 s,aZ s,some (.ints (some .i64) R),YX t n x,some (.cells [.ptr 1 0,.raw (.pointer none)])] K:=by
 refine aFQ (cM' (E:=E42) (by kernel_rfl) hK)
theorem aFc(t n me sp:Int)(R:List Int)(sh dn:Bool)(x:AL)(y:SWS)(s:MS)(K:AVal→aD Ob→Prop)(hK:((lE' s.3∧lE' R∧lE' y.2∧t=t∧n=n)∧((1:Int)≤t∧t≤(1000:Int))∧((1:Int)≤n∧n≤(1000:Int))∧((0:Int)≤s.4∧s.4≤(1000000:Int))∧y.2.length≤(1000000:Nat)∧(0:Int)≤y.4∧y.4<(2:Int)*t)∧bif ieq (y.4+1) (2*t)then bif ieq (↑(List.length (aX (aV y.3 n y.4 s) y.2)):Int) 0 then K (.bool (ieq (↑(List.length (aX (aV y.3 n y.4 s) y.2)):Int) 0)) [some (.cells [.ptr 1 0,.bool (ieq (↑(List.length (aX (aV y.3 n y.4 s) y.2)):Int) 0),.raw (Value.pointer none),.raw (Value.pointer none),.bool true]),some (.cells [.int .i64 t,.int .i64 n,.int .i64 me,.int .i64 sp,.slice 10 0 (List.length (cK (aV y.3 n y.4 s) y.2)) 1]),some (.cells [.int .i64 s.1,.int .i64 s.2,.slice 3 0 s.3.length 1,.int .i64 (s.4+1),.int .i64 1,.int .i64 (bL n y.4),.int .u64 (aB s.3 (bL n y.4)),.int .u64 (aB s.3 (bL n y.4)),.bool (bS s.3 (bL n y.4))]),some (.ints (some .u64) s.3),some (.ints (some .i64) R),some (.cells [.int .i64 t,.int .i64 n,.int .i64 x.1,.int .i64 x.2,.int .i64 x.3,.int .u64 x.4,.bool x.5]),some (.cells [.ptr 1 0,.ptr 7 0]),some (.cells [.int .i64 t,.int .i64 n,.slice 10 0 (List.length (cK (aV y.3 n y.4 s) y.2)) 1,.slice 11 0 (List.length (aX (aV y.3 n y.4 s) y.2)) 1,.slice 8 0 y.2.length 1,.map 9,.int .i64 (y.4+1),.ptr 12 0]),some (.ints (some .i64) y.2),some (.imap .i64 none (aV y.3 n y.4 s)),some (.ints (some .i64) (cK (aV y.3 n y.4 s) y.2)),some (.ints (some .i64) (aX (aV y.3 n y.4 s) y.2)),some (.cells [.int .i64 t,.int .i64 n,.slice 13 0 (List.length (aX (aV y.3 n y.4 s) y.2)) 1]),some (.ints (some .i64) (aX (aV y.3 n y.4 s) y.2))]else K (.bool false) [some (.cells [.ptr 1 0,.bool sh,.ptr 5 0,.ptr 6 0,.bool dn]),some (.cells [.int .i64 t,.int .i64 n,.int .i64 me,.int .i64 sp,.slice 4 0 R.length 1]),some (.cells [.int .i64 s.1,.int .i64 s.2,.slice 3 0 s.3.length 1,.int .i64 (s.4+1),.int .i64 1,.int .i64 (bL n y.4),.int .u64 (aB s.3 (bL n y.4)),.int .u64 (aB s.3 (bL n y.4)),.bool (bS s.3 (bL n y.4))]),some (.ints (some .u64) s.3),some (.ints (some .i64) R),some (.cells [.int .i64 t,.int .i64 n,.int .i64 x.1,.int .i64 x.2,.int .i64 x.3,.int .u64 x.4,.bool x.5]),some (.cells [.ptr 1 0,.ptr 7 0]),some (.cells [.int .i64 t,.int .i64 n,.slice 10 0 (List.length (cK (aV y.3 n y.4 s) y.2)) 1,.slice 11 0 (List.length (aX (aV y.3 n y.4 s) y.2)) 1,.slice 8 0 y.2.length 1,.map 9,.int .i64 (y.4+1),.ptr 12 0]),some (.ints (some .i64) y.2),some (.imap .i64 none (aV y.3 n y.4 s)),some (.ints (some .i64) (cK (aV y.3 n y.4 s) y.2)),some (.ints (some .i64) (aX (aV y.3 n y.4 s) y.2)),some (.cells [.int .i64 t,.int .i64 n,.slice 13 0 (List.length (aX (aV y.3 n y.4 s) y.2)) 1]),some (.ints (some .i64) (aX (aV y.3 n y.4 s) y.2))]else K (.bool false) [some (.cells [.ptr 1 0,.bool sh,.ptr 5 0,.ptr 6 0,.bool dn]),some (.cells [.int .i64 t,.int .i64 n,.int .i64 me,.int .i64 sp,.slice 4 0 R.length 1]),some (.cells [.int .i64 s.1,.int .i64 s.2,.slice 3 0 s.3.length 1,.int .i64 (s.4+1),.int .i64 1,.int .i64 (bL n y.4),.int .u64 (aB s.3 (bL n y.4)),.int .u64 (aB s.3 (bL n y.4)),.bool (bS s.3 (bL n y.4))]),some (.ints (some .u64) s.3),some (.ints (some .i64) R),some (.cells [.int .i64 t,.int .i64 n,.int .i64 x.1,.int .i64 x.2,.int .i64 x.3,.int .u64 x.4,.bool x.5]),some (.cells [.ptr 1 0,.ptr 7 0]),some (.cells [.int .i64 t,.int .i64 n,.raw (Value.slice none 0 0),.raw (Value.slice none 0 0),.slice 8 0 y.2.length 1,.map 9,.int .i64 (y.4+1),.raw (Value.pointer none)]),some (.ints (some .i64) y.2),some (.imap .i64 none (aV y.3 n y.4 s))]):cT' 85 [.ptr 0 0,.ptr 2 0] [some (.cells [.ptr 1 0,.bool sh,.ptr 5 0,.ptr 6 0,.bool dn]),some (.cells [.int .i64 t,.int .i64 n,.int .i64 me,.int .i64 sp,.slice 4 0 R.length 1]),aY 3 s,aZ s,some (.ints (some .i64) R),YX t n x,some (.cells [.ptr 1 0,.ptr 7 0]),some (.cells [.int .i64 t,.int .i64 n,.raw (.slice none 0 0),.raw (.slice none 0 0),.slice 8 0 y.N.length 1,.map 9,.int .i64 y.i,.raw (.pointer none)]),some (.ints (some .i64) y.N),some (.imap .i64 none y.m)] K:=by
 refine aFQ (cM' (E:=E42) (by kernel_rfl) hK)
theorem aFd(t n me sp:Int)(R:List Int)(sh dn:Bool)(x:AL)(y:SWS)(s:MS)(K:AVal→aD Ob→Prop)(hK:((lE' s.3∧lE' R∧lE' y.5∧lE' y.6∧lE' y.2∧t=t∧n=n∧t=t∧n=n)∧((1:Int)≤t∧t≤(1000:Int))∧((1:Int)≤n∧n≤(1000:Int))∧((0:Int)≤s.4∧s.4≤(1000000:Int))∧2*t≤y.4∧((1:Nat)≤y.9∧y.7.length=y.8+y.9)∧(-1000000:Int)≤List.getD y.7 (y.8+Int.toNat 0*1) 0∧List.getD y.7 (y.8+Int.toNat 0*1) (0:Int)≤(1000000:Int))∧bif ieq (↑(y.9 - 1):Int) 0 then K (.bool (ieq (↑y.6.length:Int) 0)) [some (.cells [.ptr 1 0,.bool (ieq (↑y.6.length:Int) 0),.raw (Value.pointer none),.raw (Value.pointer none),.bool true]),some (.cells [.int .i64 t,.int .i64 n,.int .i64 me,.int .i64 sp,.slice 8 0 y.5.length 1]),some (.cells [.int .i64 s.1,.int .i64 s.2,.slice 3 0 (List.length (aS s.3 (bZ n y.7 y.8) (WU (aB s.3 (bZ n y.7 y.8)+1)))) 1,.int .i64 (s.4+1),.int .i64 4,.int .i64 (bZ n y.7 y.8),.int .u64 (aB s.3 (bZ n y.7 y.8)),.int .u64 (bif bS s.3 (bZ n y.7 y.8)then WU (aB s.3 (bZ n y.7 y.8)+1)else 0),.bool (bS s.3 (bZ n y.7 y.8))]),some (.ints (some .u64) (aS s.3 (bZ n y.7 y.8) (WU (aB s.3 (bZ n y.7 y.8)+1)))),some (.ints (some .i64) R),some (.cells [.int .i64 t,.int .i64 n,.int .i64 x.1,.int .i64 x.2,.int .i64 x.3,.int .u64 x.4,.bool x.5]),some (.cells [.ptr 1 0,.ptr 7 0]),some (.cells [.int .i64 t,.int .i64 n,.slice 8 0 y.5.length 1,.slice 9 0 y.6.length 1,.slice 10 0 y.2.length 1,.map 11,.int .i64 y.4,.ptr 12 0]),some (.ints (some .i64) y.5),some (.ints (some .i64) y.6),some (.ints (some .i64) y.2),some (.imap .i64 none y.3),some (.cells [.int .i64 t,.int .i64 n,.slice 13 (y.8+1) (y.9 - 1) 1]),some (.ints (some .i64) y.7)]else K (.bool false) [some (.cells [.ptr 1 0,.bool sh,.ptr 5 0,.ptr 6 0,.bool dn]),some (.cells [.int .i64 t,.int .i64 n,.int .i64 me,.int .i64 sp,.slice 4 0 R.length 1]),some (.cells [.int .i64 s.1,.int .i64 s.2,.slice 3 0 (List.length (aS s.3 (bZ n y.7 y.8) (WU (aB s.3 (bZ n y.7 y.8)+1)))) 1,.int .i64 (s.4+1),.int .i64 4,.int .i64 (bZ n y.7 y.8),.int .u64 (aB s.3 (bZ n y.7 y.8)),.int .u64 (bif bS s.3 (bZ n y.7 y.8)then WU (aB s.3 (bZ n y.7 y.8)+1)else 0),.bool (bS s.3 (bZ n y.7 y.8))]),some (.ints (some .u64) (aS s.3 (bZ n y.7 y.8) (WU (aB s.3 (bZ n y.7 y.8)+1)))),some (.ints (some .i64) R),some (.cells [.int .i64 t,.int .i64 n,.int .i64 x.1,.int .i64 x.2,.int .i64 x.3,.int .u64 x.4,.bool x.5]),some (.cells [.ptr 1 0,.ptr 7 0]),some (.cells [.int .i64 t,.int .i64 n,.slice 8 0 y.5.length 1,.slice 9 0 y.6.length 1,.slice 10 0 y.2.length 1,.map 11,.int .i64 y.4,.ptr 12 0]),some (.ints (some .i64) y.5),some (.ints (some .i64) y.6),some (.ints (some .i64) y.2),some (.imap .i64 none y.3),some (.cells [.int .i64 t,.int .i64 n,.slice 13 (y.8+1) (y.9 - 1) 1]),some (.ints (some .i64) y.7)]):cT' 85 [.ptr 0 0,.ptr 2 0] [some (.cells [.ptr 1 0,.bool sh,.ptr 5 0,.ptr 6 0,.bool dn]),some (.cells [.int .i64 t,.int .i64 n,.int .i64 me,.int .i64 sp,.slice 4 0 R.length 1]),aY 3 s,aZ s,some (.ints (some .i64) R),YX t n x,some (.cells [.ptr 1 0,.ptr 7 0]),some (.cells [.int .i64 t,.int .i64 n,.slice 8 0 y.ks.length 1,.slice 9 0 y.fs.length 1,.slice 10 0 y.N.length 1,.map 11,.int .i64 y.i,.ptr 12 0]),some (.ints (some .i64) y.ks),some (.ints (some .i64) y.fs),some (.ints (some .i64) y.N),some (.imap .i64 none y.m),some (.cells [.int .i64 t,.int .i64 n,.slice 13 y.j y.l 1]),some (.ints (some .i64) y.gs)] K:=by
 refine aFQ (cM' (E:=E42) (by kernel_rfl) hK)
theorem en2(t n:Int)(e:ENS)(st:STS)(s:MS)(K:AVal→aD Ob→Prop)(hp:e.ph=2)(ok:okE t n e st s)(hK:(enF t n e st s).left t n K):cT' 85 [.ptr 0 0,.ptr 2 0] (VM t n e st s) K:=by
 obtain⟨ht,hn,hc,hm,hR,ho⟩:=ok;obtain⟨ph,sh,dn,x,y⟩:=e;dsimp only at hp;subst hp;obtain⟨me,sp,R⟩:=st;dsimp only at hm hR;refine aC.pack tbl (aC.pack tbl ?_);refine aC.unpack tbl (.store t n ⟨me,sp,R⟩) 1 0 (dJ t n ⟨me,sp,R⟩) [] rfl rfl rfl rfl ?_;refine aC.unpack tbl (.ensure t n ⟨2,sh,dn,x,y⟩) 0 1 (JD t n ⟨2,sh,dn,x,y⟩) [1] rfl rfl rfl rfl ?_;refine aFb t n me sp R sh dn x y s _ ?_;exact⟨⟨⟨rfl,rfl⟩,ht,hn,hc,hR⟩,gO (o:=enF t n ⟨2,sh,dn,x,y⟩ ⟨me,sp,R⟩ s) [0,1,2,3,4,5,6,7,8,9] hK rfl rfl⟩
theorem en3(t n:Int)(e:ENS)(st:STS)(s:MS)(K:AVal→aD Ob→Prop)(hp:e.ph=3)(ok:okE t n e st s)(hK:(enF t n e st s).left t n K):cT' 85 [.ptr 0 0,.ptr 2 0] (VM t n e st s) K:=by
 obtain⟨ht,hn,hc,hm,hR,ho⟩:=ok;obtain⟨ph,sh,dn,x,y⟩:=e;dsimp only at hp;subst hp;obtain⟨me,sp,R⟩:=st;dsimp only at hm hR;refine aC.pack tbl (aC.pack tbl ?_);refine aC.unpack tbl (.store t n ⟨me,sp,R⟩) 1 0 (dJ t n ⟨me,sp,R⟩) [] rfl rfl rfl rfl ?_;refine aC.unpack tbl (.ensure t n ⟨3,sh,dn,x,y⟩) 0 1 (JD t n ⟨3,sh,dn,x,y⟩) [1] rfl rfl rfl rfl ?_;refine aFc t n me sp R sh dn x y s _ ?_;have ho:y.N.length≤1000000∧0≤y.i∧y.i<2*t:=ho;refine⟨⟨⟨rfl,rfl,rfl,rfl,rfl⟩,ht,hn,hc,ho.1,ho.2⟩,?_⟩;unfold enF at hK;dsimp only at hK;cases h1:ieq (y.i+1) (2*t)with
 | false=>
   rw [h1]at hK;exact gO (o:=⟨false,⟨3,sh,dn,x,{y with m:=aV y.m n y.i s,i:=y.i+1}⟩,⟨me,sp,R⟩,s.loadd (bL n y.i)⟩) [0,1,2,3,4,5,6,7,8,9] hK rfl rfl
 | true=>
   rw [h1]at hK;cases h2:ieq ((aX (aV y.m n y.i s) y.N).length :Int) 0 with
   | true=>
     rw [h2]at hK;exact gO (o:=⟨true,⟨0,true,true,x,y⟩,⟨me,sp,cK (aV y.m n y.i s) y.N⟩,s.loadd (bL n y.i)⟩) [0,1,2,3,10] hK rfl rfl
   | false=>
     rw [h2]at hK;exact gO (o:=⟨false,⟨4,sh,dn,x,⟨0,y.N,aV y.m n y.i s,y.i+1,cK (aV y.m n y.i s) y.N,aX (aV y.m n y.i s) y.N,aX (aV y.m n y.i s) y.N,0,(aX (aV y.m n y.i s) y.N).length⟩⟩,⟨me,sp,R⟩,s.loadd (bL n y.i)⟩) [0,1,2,3,4,5,6,7,10,11,8,9,12,13] hK rfl rfl
theorem en4(t n:Int)(e:ENS)(st:STS)(s:MS)(K:AVal→aD Ob→Prop)(hp:e.ph=4)(ok:okE t n e st s)(hK:(enF t n e st s).left t n K):cT' 85 [.ptr 0 0,.ptr 2 0] (VM t n e st s) K:=by
 obtain⟨ht,hn,hc,hm,hR,ho⟩:=ok;obtain⟨ph,sh,dn,x,y⟩:=e;dsimp only at hp;subst hp;obtain⟨me,sp,R⟩:=st;dsimp only at hm hR;refine aC.pack tbl (aC.pack tbl ?_);refine aC.unpack tbl (.store t n ⟨me,sp,R⟩) 1 0 (dJ t n ⟨me,sp,R⟩) [] rfl rfl rfl rfl ?_;refine aC.unpack tbl (.ensure t n ⟨4,sh,dn,x,y⟩) 0 1 (JD t n ⟨4,sh,dn,x,y⟩) [1] rfl rfl rfl rfl ?_;refine aFd t n me sp R sh dn x y s _ ?_;have ho:2*t≤y.i∧1≤y.l∧y.gs.length=y.j+y.l∧ -1000000≤List.getD y.gs (y.j+Int.toNat 0*1) 0∧List.getD y.gs (y.j+Int.toNat 0*1) 0≤1000000:=ho;refine⟨⟨⟨rfl,rfl,rfl,rfl,rfl,rfl,rfl,rfl,rfl⟩,ht,hn,hc,ho.1,⟨ho.2.1,ho.2.2.1⟩,ho.2.2.2⟩,?_⟩;unfold enF at hK;dsimp only at hK;cases h1:ieq ((y.l - 1:Nat):Int) 0 with
 | false=>
   rw [h1]at hK;exact gO (o:=⟨false,⟨4,sh,dn,x,{y with j:=y.j+1,l:=y.l - 1}⟩,⟨me,sp,R⟩,s.added (bZ n y.gs y.j) 1⟩) [0,1,2,3,4,5,6,7,8,9,10,11,12,13] hK rfl rfl
 | true=>
   rw [h1]at hK;exact gO (o:=⟨ieq (y.fs.length:Int) 0,⟨0,ieq (y.fs.length:Int) 0,true,x,y⟩,⟨me,sp,y.ks⟩,s.added (bZ n y.gs y.j) 1⟩) [0,1,2,3,8] hK rfl rfl
theorem en1(t n:Int)(e:ENS)(st:STS)(s:MS)(K:AVal→aD Ob→Prop)(hp:e.ph=1)(ok:okE t n e st s)(hK:(enF t n e st s).left t n K):cT' 85 [.ptr 0 0,.ptr 2 0] (VM t n e st s) K:=by
 obtain⟨ht,hn,hc,hm,hR,ho⟩:=ok;obtain⟨ph,sh,dn,x,y⟩:=e;dsimp only at hp;subst hp;obtain⟨me,sp,R⟩:=st;dsimp only at hm hR;refine aC.pack tbl (aC.pack tbl ?_);refine aC.unpack tbl (.store t n ⟨me,sp,R⟩) 1 0 (dJ t n ⟨me,sp,R⟩) [] rfl rfl rfl rfl ?_;refine aC.unpack tbl (.ensure t n ⟨1,sh,dn,x,y⟩) 0 1 (JD t n ⟨1,sh,dn,x,y⟩) [1] rfl rfl rfl rfl ?_;refine aFa t n me sp R sh dn x y s _ ?_;have ho:okAl n x:=ho;obtain⟨hg,ha,hl⟩:=ho;refine⟨⟨rfl,ht,hn,ha,hl,hc⟩,?_⟩;obtain⟨got,at',left,found,free⟩:=x;dsimp only at hg ha hl⊢;subst hg;have i0:ieq at' 0=false:=by rw [bI];simp;omega
 have i00:ieq 0 0=true:=rfl;rw [i0,i00];unfold enF jU AT at hK;dsimp only at hK;cases free with
 | false=>
   dsimp only [cond]at hK⊢;cases ho:oddB (aB s.xs (n+4+at'))with
   | false=>
     rw [ho]at hK;exact gO (o:=⟨false,⟨1,sh,dn,⟨0,at',left,aB s.xs (n+4+at'),true⟩,y⟩,⟨me,sp,R⟩,s.loadd (n+4+at')⟩) [0,1,2,3,4,5] hK rfl rfl
   | true=>
     rw [ho]at hK;dsimp only [cond]at hK⊢;cases hw:ile (left - 1) 0 with
     | false=>
       rw [hw]at hK;exact gO (o:=⟨false,⟨1,sh,dn,⟨0,cP n at',left - 1,aB s.xs (n+4+at'),false⟩,y⟩,⟨me,sp,R⟩,s.loadd (n+4+at')⟩) [0,1,2,3,4,5] hK rfl rfl
     | true=>
       rw [hw]at hK;cases dn with
       | true=>exact gO (o:=⟨true,⟨2,true,true,⟨0,cP n at',left - 1,aB s.xs (n+4+at'),false⟩,y⟩,⟨me,0,R⟩,s.loadd (n+4+at')⟩) [0,1,2,3,4,5,6] hK rfl rfl
       | false=>exact gO (o:=⟨ieq (R.length:Int) 0,⟨2,ieq (R.length:Int) 0,false,⟨0,cP n at',left - 1,aB s.xs (n+4+at'),false⟩,y⟩,⟨me,0,R⟩,s.loadd (n+4+at')⟩) [0,1,2,3,4,5,6] hK rfl rfl
 | true=>
   dsimp only [cond]at hK⊢;unfold MS.cased at hK;cases hb:aT s.xs (n+4+at') found with
   | true=>
     rw [hb]at hK;exact gO (o:=⟨true,⟨1,sh,dn,⟨at',at',left,found,true⟩,y⟩,⟨me,at',R⟩,_⟩) [0,1,2,3,4,5] hK rfl rfl
   | false=>
     rw [hb]at hK;dsimp only [cond]at hK⊢;cases hw:ile (left - 1) 0 with
     | false=>
       rw [hw]at hK;exact gO (o:=⟨false,⟨1,sh,dn,⟨0,cP n at',left - 1,found,false⟩,y⟩,⟨me,sp,R⟩,_⟩) [0,1,2,3,4,5] hK rfl rfl
     | true=>
       rw [hw]at hK;cases dn with
       | true=>exact gO (o:=⟨true,⟨2,true,true,⟨0,cP n at',left - 1,found,false⟩,y⟩,⟨me,0,R⟩,_⟩) [0,1,2,3,4,5,6] hK rfl rfl
       | false=>exact gO (o:=⟨ieq (R.length:Int) 0,⟨2,ieq (R.length:Int) 0,false,⟨0,cP n at',left - 1,found,false⟩,y⟩,⟨me,0,R⟩,_⟩) [0,1,2,3,4,5,6] hK rfl rfl
theorem en0(t n:Int)(e:ENS)(st:STS)(s:MS)(K:AVal→aD Ob→Prop)(hp:e.ph=0)(ok:okE t n e st s)(hK:(enF t n e st s).left t n K):cT' 85 [.ptr 0 0,.ptr 2 0] (VM t n e st s) K:=by
 obtain⟨ht,hn,hc,hm,hR,ho⟩:=ok;obtain⟨ph,sh,dn,x,y⟩:=e;dsimp only at hp;subst hp;obtain⟨me,sp,R⟩:=st;dsimp only at hm hR;refine aC.pack tbl (aC.pack tbl ?_);refine aC.unpack tbl (.store t n ⟨me,sp,R⟩) 1 0 (dJ t n ⟨me,sp,R⟩) [] rfl rfl rfl rfl ?_;refine aC.unpack tbl (.ensure t n ⟨0,sh,dn,x,y⟩) 0 1 (JD t n ⟨0,sh,dn,x,y⟩) [1] rfl rfl rfl rfl ?_;refine aE9 t n me sp R sh dn x y s _ ?_;unfold enF jU AT at hK;dsimp only at hK;cases hz:ieq sp 0 with
 | false=>
   rw [hz]at hK;exact⟨⟨rfl,by omega⟩,gO (o:=⟨true,⟨0,sh,dn,x,y⟩,⟨me,sp,R⟩,s.loadd 0⟩) [0,1,2,3,4] hK rfl rfl⟩
 | true=>
   rw [hz]at hK
   have ha:1≤at0 t n me∧at0 t n me≤n:=by
    unfold at0 bK;cases h1:(ile 1 (aQ t n me))<;>cases h2:ile (aQ t n me) n<;>simp only [Bool.and_true,Bool.and_false,Bool.and_self,cond_true,cond_false]<;>rw [bX]at h1 h2<;>simp at h1 h2<;>omega
   refine⟨⟨by omega,by omega⟩,⟨trivial,trivial⟩,⟨rfl,ht,hn,ha,by omega,hc⟩,?_⟩
   show cond (oddB (aB s.xs (n+4+at0 t n me))) _ _;cases ho:oddB (aB s.xs (n+4+at0 t n me))with
   | false=>
     rw [ho]at hK;exact gO (o:=⟨false,⟨1,sh,dn,⟨0,at0 t n me,n,aB s.xs (n+4+at0 t n me),true⟩,y⟩,⟨me,sp,R⟩,s.loadd (n+4+at0 t n me)⟩) [0,1,2,3,4,5] hK rfl rfl
   | true=>
     rw [ho]at hK;dsimp only [cond]at hK⊢;cases hw:ile (n - 1) 0 with
     | false=>
       rw [hw]at hK;exact gO (o:=⟨false,⟨1,sh,dn,⟨0,cP n (at0 t n me),n - 1,aB s.xs (n+4+at0 t n me),false⟩,y⟩,⟨me,sp,R⟩,s.loadd (n+4+at0 t n me)⟩) [0,1,2,3,4,5] hK rfl rfl
     | true=>
       rw [hw]at hK;cases dn with
       | true=>exact gO (o:=⟨true,⟨2,true,true,⟨0,cP n (at0 t n me),n - 1,aB s.xs (n+4+at0 t n me),false⟩,y⟩,⟨me,0,R⟩,s.loadd (n+4+at0 t n me)⟩) [0,1,2,3,4,5,6] hK rfl rfl
       | false=>exact gO (o:=⟨ieq (R.length:Int) 0,⟨2,ieq (R.length:Int) 0,false,⟨0,cP n (at0 t n me),n - 1,aB s.xs (n+4+at0 t n me),false⟩,y⟩,⟨me,0,R⟩,s.loadd (n+4+at0 t n me)⟩) [0,1,2,3,4,5,6] hK rfl rfl
theorem JI(t n:Int)(e:ENS)(st:STS)(s:MS)(K:AVal→aD Ob→Prop)(ok:okE t n e st s)(hK:(enF t n e st s).left t n K):cT' 85 [.ptr 0 0,.ptr 2 0] (VM t n e st s) K:=by
 match h:e.ph with
 | 0=>exact en0 t n e st s K h ok hK
 | 1=>exact en1 t n e st s K h ok hK
 | 2=>exact en2 t n e st s K h ok hK
 | 3=>exact en3 t n e st s K h ok hK
 | 4=>exact en4 t n e st s K h ok hK
 | k+5=>have:=ok.ho;unfold aEi at this;rw [h]at this;exact this.elim
noncomputable def enS:aG Ob:=fun args h=>match args,h with
 | [.ptr 0 0,.ptr 2 0],[some (.abs (.ensure t n e) [1]),some (.abs (.store t' n' st) []),e1,e2]=>(match cU 3 [e1,e2]with
   | some (l,s)=>some (.pre ((l=s.xs.length∧t'=t∧n'=n)∧okE t n e st s) (.ret (.bool (enF t n e st s).d) (VM t n (enF t n e st s).e (enF t n e st s).st (enF t n e st s).s)))
   | none=>none)
 | _,_=>none
theorem aDM:aG.ok E42.I Tryz.prog 85 enS:=by
 intro args h o ho K hK;unfold enS at ho;split at ho
 case h_2=>cases ho
 split at ho<;>cases ho
 rename_i hm;obtain⟨⟨⟨hl,ht',hn'⟩,ok⟩,hK⟩:=hK;have hh:=bB hm hl;cases hh;subst ht' hn';exact JI _ _ _ _ _ K ok hK
noncomputable def enE:=E42.addS 85 enS aDM
structure SO where
 d:Bool
 e:SWS
 st:STS
 s:MS
instance:Inhabited SO:=⟨⟨false,bN,⟨0,0,[]⟩,⟨0,0,[],0,0,0,0,0,false⟩⟩⟩
def swF(t n:Int)(y:SWS)(st:STS)(s:MS):SO:=match y.ph with
 | 0=>⟨false,{y with ph:=1,N:=st.R,m:=aV [] n 0 s,i:=1},st,s.loadd (bL n 0)⟩
 | 1=>(match ieq (y.i+1) (2*t),ieq ((aX (aV y.m n y.i s) y.N).length :Int) 0 with
   | true,true=>⟨true,{y with ph:=3},{st with R:=cK (aV y.m n y.i s) y.N},s.loadd (bL n y.i)⟩
   | true,false=>⟨false,⟨2,y.N,aV y.m n y.i s,y.i+1,cK (aV y.m n y.i s) y.N,aX (aV y.m n y.i s) y.N,aX (aV y.m n y.i s) y.N,0,(aX (aV y.m n y.i s) y.N).length⟩,st,s.loadd (bL n y.i)⟩
   | false,_=>⟨false,{y with m:=aV y.m n y.i s,i:=y.i+1},st,s.loadd (bL n y.i)⟩)
 | _=>(match ieq ((y.l - 1:Nat):Int) 0 with
   | true=>⟨true,{y with ph:=3},{st with R:=y.ks},s.added (bZ n y.gs y.j) 1⟩
   | false=>⟨false,{y with j:=y.j+1,l:=y.l - 1},st,s.added (bZ n y.gs y.j) 1⟩)
def ZN(t n:Int)(y:SWS):Prop:=match y.ph with
 | 0=>True
 | 1=>y.N.length≤1000000∧0≤y.i∧y.i<2*t
 | 2=>2*t≤y.i∧1≤y.l∧y.gs.length=y.j+y.l∧ -1000000≤List.getD y.gs (y.j+Int.toNat 0*1) 0∧List.getD y.gs (y.j+Int.toNat 0*1) 0≤1000000
 | _=>False
structure sH (t n:Int) (y:SWS) (st:STS) (s:MS):Prop where
 ht:1≤t∧t≤1000
 hn:1≤n∧n≤1000
 hc:0≤s.c∧s.c≤1000000
 hR:st.R.length≤1000000
 ho:ZN t n y
def swH(t n:Int)(y:SWS)(st:STS)(s:MS):aD Ob:=[some (.abs (.sweep t n y) [1]),some (.abs (.store t n st) []),aY 3 s,aZ s]
def SO.left(o:SO)(t n:Int)(K:AVal→aD Ob→Prop):Prop:=K (.bool o.d) (swH t n o.e o.st o.s)
theorem zR{K:AVal→aD Ob→Prop}{t n:Int}{o:SO}{g':aD Ob}(pl:List Nat)(hK:o.left t n K)
 (hb:(fD pl g'.length&&kO pl 0 4&&uY 1 (S9 t n o.e))=true)
 (hT:gU pl g'=bA [some (.abs (.sweep t n o.e) [1]),some (.cells [.int .i64 t,.int .i64 n,.int .i64 o.st.me,.int .i64 o.st.sp,.slice 4 0 o.st.R.length 1]),aY 3 o.s,aZ o.s,some (.ints (some .i64) o.st.R)] 0 1 (S9 t n o.e) [1]):CC tbl 4 (CC tbl 4 K) (.bool o.d) g':=by
 simp only [Bool.and_eq_true]at hb;obtain⟨⟨b1,b2⟩,b3⟩:=hb;refine⟨pl,_,.sweep t n o.e,0,1,_,[1],?_,hT,rfl,rfl,⟨[0,1,2,3,4],[some (.abs (.sweep t n o.e) [1]),some (.abs (.store t n o.st) []),aY 3 o.s,aZ o.s],.store t n o.st,1,0,dJ t n o.st,[],rfl,rfl,rfl,rfl,?_⟩⟩
 ·rw [b1,b2,b3];rfl
 ·exact hK
def S6(t n me sp:Int)(R:List Int)(y:SWS)(s:MS)(K:AVal→aD Ob→Prop):Prop:=((lE' s.3∧lE' R)∧((1:Int)≤t∧t≤(1000:Int))∧((1:Int)≤n∧n≤(1000:Int))∧((0:Int)≤s.4∧s.4≤(1000000:Int))∧R.length≤(1000000:Nat))∧K (.bool false) [some (.cells [.ptr 1 0,.ptr 5 0]),some (.cells [.int .i64 t,.int .i64 n,.int .i64 me,.int .i64 sp,.slice 4 0 R.length 1]),some (.cells [.int .i64 s.1,.int .i64 s.2,.slice 3 0 s.3.length 1,.int .i64 (s.4+1),.int .i64 1,.int .i64 (bL n 0),.int .u64 (aB s.3 (bL n 0)),.int .u64 (aB s.3 (bL n 0)),.bool (bS s.3 (bL n 0))]),some (.ints (some .u64) s.3),some (.ints (some .i64) R),some (.cells [.int .i64 t,.int .i64 n,.raw (Value.slice none 0 0),.raw (Value.slice none 0 0),.slice 6 0 R.length 1,.map 7,.int .i64 1,.raw (Value.pointer none)]),some (.ints (some .i64) R),some (.imap .i64 none (aV [] n 0 s))]
theorem aFk(t n me sp:Int)(R:List Int)(y:SWS)(s:MS)(K:AVal→aD Ob→Prop)(hK:S6 t n me sp R y s K):cT' 195 [.ptr 0 0,.ptr 2 0] [some (.cells [.ptr 1 0,.raw (.pointer none)]),some (.cells [.int .i64 t,.int .i64 n,.int .i64 me,.int .i64 sp,.slice 4 0 R.length 1]),aY 3 s,aZ s,some (.ints (some .i64) R)] K:=
 (lR pJ) _ _ _ (Ev.get (aN (p:=qB swStepS [.ptr 0 0,.ptr 2 0] [some (.cells [.ptr 1 0,.raw (.pointer none)]),some (.cells [.int .i64 t,.int .i64 n,.int .i64 me,.int .i64 sp,.slice 4 0 R.length 1]),aY 3 s,aZ s,some (.ints (some .i64) R)] K) (q:=S6 t n me sp R y s K) (by kernel_rfl) hK))
def S7(t n me sp:Int)(R:List Int)(y:SWS)(s:MS)(K:AVal→aD Ob→Prop):Prop:=((lE' s.3∧lE' R∧lE' y.2∧t=t∧n=n)∧((1:Int)≤t∧t≤(1000:Int))∧((1:Int)≤n∧n≤(1000:Int))∧((0:Int)≤s.4∧s.4≤(1000000:Int))∧y.2.length≤(1000000:Nat)∧(0:Int)≤y.4∧y.4<(2:Int)*t)∧bif ieq (y.4+1) (2*t)then bif ieq (↑(List.length (aX (aV y.3 n y.4 s) y.2)):Int) 0 then K (.bool true) [some (.cells [.ptr 1 0,.ptr 5 0]),some (.cells [.int .i64 t,.int .i64 n,.int .i64 me,.int .i64 sp,.slice 8 0 (List.length (cK (aV y.3 n y.4 s) y.2)) 1]),some (.cells [.int .i64 s.1,.int .i64 s.2,.slice 3 0 s.3.length 1,.int .i64 (s.4+1),.int .i64 1,.int .i64 (bL n y.4),.int .u64 (aB s.3 (bL n y.4)),.int .u64 (aB s.3 (bL n y.4)),.bool (bS s.3 (bL n y.4))]),some (.ints (some .u64) s.3),some (.ints (some .i64) R),some (.cells [.int .i64 t,.int .i64 n,.slice 8 0 (List.length (cK (aV y.3 n y.4 s) y.2)) 1,.slice 9 0 (List.length (aX (aV y.3 n y.4 s) y.2)) 1,.slice 6 0 y.2.length 1,.map 7,.int .i64 (y.4+1),.ptr 10 0]),some (.ints (some .i64) y.2),some (.imap .i64 none (aV y.3 n y.4 s)),some (.ints (some .i64) (cK (aV y.3 n y.4 s) y.2)),some (.ints (some .i64) (aX (aV y.3 n y.4 s) y.2)),some (.cells [.int .i64 t,.int .i64 n,.slice 11 0 (List.length (aX (aV y.3 n y.4 s) y.2)) 1]),some (.ints (some .i64) (aX (aV y.3 n y.4 s) y.2))]else K (.bool false) [some (.cells [.ptr 1 0,.ptr 5 0]),some (.cells [.int .i64 t,.int .i64 n,.int .i64 me,.int .i64 sp,.slice 4 0 R.length 1]),some (.cells [.int .i64 s.1,.int .i64 s.2,.slice 3 0 s.3.length 1,.int .i64 (s.4+1),.int .i64 1,.int .i64 (bL n y.4),.int .u64 (aB s.3 (bL n y.4)),.int .u64 (aB s.3 (bL n y.4)),.bool (bS s.3 (bL n y.4))]),some (.ints (some .u64) s.3),some (.ints (some .i64) R),some (.cells [.int .i64 t,.int .i64 n,.slice 8 0 (List.length (cK (aV y.3 n y.4 s) y.2)) 1,.slice 9 0 (List.length (aX (aV y.3 n y.4 s) y.2)) 1,.slice 6 0 y.2.length 1,.map 7,.int .i64 (y.4+1),.ptr 10 0]),some (.ints (some .i64) y.2),some (.imap .i64 none (aV y.3 n y.4 s)),some (.ints (some .i64) (cK (aV y.3 n y.4 s) y.2)),some (.ints (some .i64) (aX (aV y.3 n y.4 s) y.2)),some (.cells [.int .i64 t,.int .i64 n,.slice 11 0 (List.length (aX (aV y.3 n y.4 s) y.2)) 1]),some (.ints (some .i64) (aX (aV y.3 n y.4 s) y.2))]else K (.bool false) [some (.cells [.ptr 1 0,.ptr 5 0]),some (.cells [.int .i64 t,.int .i64 n,.int .i64 me,.int .i64 sp,.slice 4 0 R.length 1]),some (.cells [.int .i64 s.1,.int .i64 s.2,.slice 3 0 s.3.length 1,.int .i64 (s.4+1),.int .i64 1,.int .i64 (bL n y.4),.int .u64 (aB s.3 (bL n y.4)),.int .u64 (aB s.3 (bL n y.4)),.bool (bS s.3 (bL n y.4))]),some (.ints (some .u64) s.3),some (.ints (some .i64) R),some (.cells [.int .i64 t,.int .i64 n,.raw (Value.slice none 0 0),.raw (Value.slice none 0 0),.slice 6 0 y.2.length 1,.map 7,.int .i64 (y.4+1),.raw (Value.pointer none)]),some (.ints (some .i64) y.2),some (.imap .i64 none (aV y.3 n y.4 s))]
theorem aFl(t n me sp:Int)(R:List Int)(y:SWS)(s:MS)(K:AVal→aD Ob→Prop)(hK:S7 t n me sp R y s K):cT' 195 [.ptr 0 0,.ptr 2 0] [some (.cells [.ptr 1 0,.ptr 5 0]),some (.cells [.int .i64 t,.int .i64 n,.int .i64 me,.int .i64 sp,.slice 4 0 R.length 1]),aY 3 s,aZ s,some (.ints (some .i64) R),some (.cells [.int .i64 t,.int .i64 n,.raw (.slice none 0 0),.raw (.slice none 0 0),.slice 6 0 y.N.length 1,.map 7,.int .i64 y.i,.raw (.pointer none)]),some (.ints (some .i64) y.N),some (.imap .i64 none y.m)] K:=
 (lR pJ) _ _ _ (Ev.get (aN (p:=qB swStepS [.ptr 0 0,.ptr 2 0] [some (.cells [.ptr 1 0,.ptr 5 0]),some (.cells [.int .i64 t,.int .i64 n,.int .i64 me,.int .i64 sp,.slice 4 0 R.length 1]),aY 3 s,aZ s,some (.ints (some .i64) R),some (.cells [.int .i64 t,.int .i64 n,.raw (.slice none 0 0),.raw (.slice none 0 0),.slice 6 0 y.N.length 1,.map 7,.int .i64 y.i,.raw (.pointer none)]),some (.ints (some .i64) y.N),some (.imap .i64 none y.m)] K) (q:=S7 t n me sp R y s K) (by kernel_rfl) hK))
def S8(t n me sp:Int)(R:List Int)(y:SWS)(s:MS)(K:AVal→aD Ob→Prop):Prop:=((lE' s.3∧lE' R∧lE' y.5∧lE' y.6∧lE' y.2∧t=t∧n=n∧t=t∧n=n)∧((1:Int)≤t∧t≤(1000:Int))∧((1:Int)≤n∧n≤(1000:Int))∧((0:Int)≤s.4∧s.4≤(1000000:Int))∧2*t≤y.4∧((1:Nat)≤y.9∧y.7.length=y.8+y.9)∧(-1000000:Int)≤List.getD y.7 (y.8+Int.toNat 0*1) 0∧List.getD y.7 (y.8+Int.toNat 0*1) (0:Int)≤(1000000:Int))∧bif ieq (↑(y.9 - 1):Int) 0 then K (.bool true) [some (.cells [.ptr 1 0,.ptr 5 0]),some (.cells [.int .i64 t,.int .i64 n,.int .i64 me,.int .i64 sp,.slice 6 0 y.5.length 1]),some (.cells [.int .i64 s.1,.int .i64 s.2,.slice 3 0 (List.length (aS s.3 (bZ n y.7 y.8) (WU (aB s.3 (bZ n y.7 y.8)+1)))) 1,.int .i64 (s.4+1),.int .i64 4,.int .i64 (bZ n y.7 y.8),.int .u64 (aB s.3 (bZ n y.7 y.8)),.int .u64 (bif bS s.3 (bZ n y.7 y.8)then WU (aB s.3 (bZ n y.7 y.8)+1)else 0),.bool (bS s.3 (bZ n y.7 y.8))]),some (.ints (some .u64) (aS s.3 (bZ n y.7 y.8) (WU (aB s.3 (bZ n y.7 y.8)+1)))),some (.ints (some .i64) R),some (.cells [.int .i64 t,.int .i64 n,.slice 6 0 y.5.length 1,.slice 7 0 y.6.length 1,.slice 8 0 y.2.length 1,.map 9,.int .i64 y.4,.ptr 10 0]),some (.ints (some .i64) y.5),some (.ints (some .i64) y.6),some (.ints (some .i64) y.2),some (.imap .i64 none y.3),some (.cells [.int .i64 t,.int .i64 n,.slice 11 (y.8+1) (y.9 - 1) 1]),some (.ints (some .i64) y.7)]else K (.bool false) [some (.cells [.ptr 1 0,.ptr 5 0]),some (.cells [.int .i64 t,.int .i64 n,.int .i64 me,.int .i64 sp,.slice 4 0 R.length 1]),some (.cells [.int .i64 s.1,.int .i64 s.2,.slice 3 0 (List.length (aS s.3 (bZ n y.7 y.8) (WU (aB s.3 (bZ n y.7 y.8)+1)))) 1,.int .i64 (s.4+1),.int .i64 4,.int .i64 (bZ n y.7 y.8),.int .u64 (aB s.3 (bZ n y.7 y.8)),.int .u64 (bif bS s.3 (bZ n y.7 y.8)then WU (aB s.3 (bZ n y.7 y.8)+1)else 0),.bool (bS s.3 (bZ n y.7 y.8))]),some (.ints (some .u64) (aS s.3 (bZ n y.7 y.8) (WU (aB s.3 (bZ n y.7 y.8)+1)))),some (.ints (some .i64) R),some (.cells [.int .i64 t,.int .i64 n,.slice 6 0 y.5.length 1,.slice 7 0 y.6.length 1,.slice 8 0 y.2.length 1,.map 9,.int .i64 y.4,.ptr 10 0]),some (.ints (some .i64) y.5),some (.ints (some .i64) y.6),some (.ints (some .i64) y.2),some (.imap .i64 none y.3),some (.cells [.int .i64 t,.int .i64 n,.slice 11 (y.8+1) (y.9 - 1) 1]),some (.ints (some .i64) y.7)]
theorem aFm(t n me sp:Int)(R:List Int)(y:SWS)(s:MS)(K:AVal→aD Ob→Prop)(hK:S8 t n me sp R y s K):cT' 195 [.ptr 0 0,.ptr 2 0] [some (.cells [.ptr 1 0,.ptr 5 0]),some (.cells [.int .i64 t,.int .i64 n,.int .i64 me,.int .i64 sp,.slice 4 0 R.length 1]),aY 3 s,aZ s,some (.ints (some .i64) R),some (.cells [.int .i64 t,.int .i64 n,.slice 6 0 y.ks.length 1,.slice 7 0 y.fs.length 1,.slice 8 0 y.N.length 1,.map 9,.int .i64 y.i,.ptr 10 0]),some (.ints (some .i64) y.ks),some (.ints (some .i64) y.fs),some (.ints (some .i64) y.N),some (.imap .i64 none y.m),some (.cells [.int .i64 t,.int .i64 n,.slice 11 y.j y.l 1]),some (.ints (some .i64) y.gs)] K:=
 (lR pJ) _ _ _ (Ev.get (aN (p:=qB swStepS [.ptr 0 0,.ptr 2 0] [some (.cells [.ptr 1 0,.ptr 5 0]),some (.cells [.int .i64 t,.int .i64 n,.int .i64 me,.int .i64 sp,.slice 4 0 R.length 1]),aY 3 s,aZ s,some (.ints (some .i64) R),some (.cells [.int .i64 t,.int .i64 n,.slice 6 0 y.ks.length 1,.slice 7 0 y.fs.length 1,.slice 8 0 y.N.length 1,.map 9,.int .i64 y.i,.ptr 10 0]),some (.ints (some .i64) y.ks),some (.ints (some .i64) y.fs),some (.ints (some .i64) y.N),some (.imap .i64 none y.m),some (.cells [.int .i64 t,.int .i64 n,.slice 11 y.j y.l 1]),some (.ints (some .i64) y.gs)] K) (q:=S8 t n me sp R y s K) (by kernel_rfl) hK))
theorem wc{x y:Option (aM Ob)}{g g2:aD Ob}(h:pZ x y)(k:kW g g2):kW (x::g) (y::g2):=⟨h,k⟩
theorem wv{v w:AVal}{vs ws:List AVal}(h:w=v∨w=.O)(k:oZ vs ws):oZ (v::vs) (w::ws):=⟨h,k⟩
theorem aFp:oZ [] []:=trivial
theorem aEJ{vs ws:List AVal}(h:oZ vs ws):pZ (some (.cells vs):Option (aM Ob)) (some (.cells ws)):=h
theorem wvs: ∀vs:List AVal,oZ vs vs
 | []=>trivial
 | v::vs=>⟨.inl rfl,wvs vs⟩
theorem aEK: ∀x:Option (aM Ob),pZ x x
 | none=>trivial
 | some (.cells vs)=>wvs vs
 | some (.ints c xs)=>rfl
 | some (.abs t ps)=>rfl
 | some (.tab ks r)=>rfl
 | some (.imap k v m)=>rfl
theorem IL: ∀g:aD Ob,kW g g
 | []=>trivial
 | x::g=>⟨aEK x,IL g⟩
theorem vD{K:AVal→aD Ob→Prop}{v:AVal}{g:aD Ob}(h:K v g):O3 K v g:=⟨g,IL g,h⟩
theorem ES{K:AVal→aD Ob→Prop}{v a b:AVal}{g:aD Ob}(h:K v (some (.cells [a,.O])::g)):O3 K v (some (.cells [a,b])::g):=⟨_,wc (aEJ (wv (.inl rfl) (wv (.inr rfl) aFp))) (IL g),h⟩
theorem sw0(t n:Int)(y:SWS)(st:STS)(s:MS)(K:AVal→aD Ob→Prop)(hp:y.ph=0)(ok:sH t n y st s)(hK:(swF t n y st s).left t n K):cT' 195 [.ptr 0 0,.ptr 2 0] (swH t n y st s) K:=by
 obtain⟨ht,hn,hc,hR,ho⟩:=ok;obtain⟨ph,N,m,i,ks,fs,gs,j,l⟩:=y;dsimp only at hp;subst hp;obtain⟨me,sp,R⟩:=st;dsimp only at hR;refine aC.pack tbl (aC.pack tbl (aGu ?_));refine aC.unpack tbl (.store t n ⟨me,sp,R⟩) 1 0 (dJ t n ⟨me,sp,R⟩) [] rfl rfl rfl rfl ?_;refine aC.unpack tbl (.sweep t n ⟨0,N,m,i,ks,fs,gs,j,l⟩) 0 1 (S9 t n ⟨0,N,m,i,ks,fs,gs,j,l⟩) [1] rfl rfl rfl rfl ?_;refine aFk t n me sp R ⟨0,N,m,i,ks,fs,gs,j,l⟩ s _ ?_;unfold S6;exact⟨⟨⟨rfl,rfl⟩,ht,hn,hc,hR⟩,vD (zR (o:=swF t n ⟨0,N,m,i,ks,fs,gs,j,l⟩ ⟨me,sp,R⟩ s) [0,1,2,3,4,5,6,7] hK rfl rfl)⟩
theorem sw1(t n:Int)(y:SWS)(st:STS)(s:MS)(K:AVal→aD Ob→Prop)(hp:y.ph=1)(ok:sH t n y st s)(hK:(swF t n y st s).left t n K):cT' 195 [.ptr 0 0,.ptr 2 0] (swH t n y st s) K:=by
 obtain⟨ht,hn,hc,hR,ho⟩:=ok;obtain⟨ph,N,m,i,ks,fs,gs,j,l⟩:=y;dsimp only at hp;subst hp;obtain⟨me,sp,R⟩:=st;dsimp only at hR;refine aC.pack tbl (aC.pack tbl (aGu ?_));refine aC.unpack tbl (.store t n ⟨me,sp,R⟩) 1 0 (dJ t n ⟨me,sp,R⟩) [] rfl rfl rfl rfl ?_;refine aC.unpack tbl (.sweep t n ⟨1,N,m,i,ks,fs,gs,j,l⟩) 0 1 (S9 t n ⟨1,N,m,i,ks,fs,gs,j,l⟩) [1] rfl rfl rfl rfl ?_;refine aFl t n me sp R ⟨1,N,m,i,ks,fs,gs,j,l⟩ s _ ?_;unfold S7;have ho:N.length≤1000000∧0≤i∧i<2*t:=ho;refine⟨⟨⟨rfl,rfl,rfl,rfl,rfl⟩,ht,hn,hc,ho.1,ho.2⟩,?_⟩;unfold swF at hK;dsimp only at hK⊢;cases h1:ieq (i+1) (2*t)with
 | false=>
   rw [h1]at hK;exact vD (zR (o:=⟨false,⟨1,N,aV m n i s,i+1,ks,fs,gs,j,l⟩,⟨me,sp,R⟩,s.loadd (bL n i)⟩) [0,1,2,3,4,5,6,7] hK rfl rfl)
 | true=>
   rw [h1]at hK;cases h2:ieq ((aX (aV m n i s) N).length :Int) 0 with
   | true=>
     rw [h2]at hK;exact ES (zR (o:=⟨true,⟨3,N,m,i,ks,fs,gs,j,l⟩,⟨me,sp,cK (aV m n i s) N⟩,s.loadd (bL n i)⟩) [0,1,2,3,8] hK rfl rfl)
   | false=>
     rw [h2]at hK;exact vD (zR (o:=⟨false,⟨2,N,aV m n i s,i+1,cK (aV m n i s) N,aX (aV m n i s) N,aX (aV m n i s) N,0,(aX (aV m n i s) N).length⟩,⟨me,sp,R⟩,s.loadd (bL n i)⟩) [0,1,2,3,4,5,8,9,6,7,10,11] hK rfl rfl)
theorem sw2(t n:Int)(y:SWS)(st:STS)(s:MS)(K:AVal→aD Ob→Prop)(hp:y.ph=2)(ok:sH t n y st s)(hK:(swF t n y st s).left t n K):cT' 195 [.ptr 0 0,.ptr 2 0] (swH t n y st s) K:=by
 obtain⟨ht,hn,hc,hR,ho⟩:=ok;obtain⟨ph,N,m,i,ks,fs,gs,j,l⟩:=y;dsimp only at hp;subst hp;obtain⟨me,sp,R⟩:=st;dsimp only at hR;refine aC.pack tbl (aC.pack tbl (aGu ?_));refine aC.unpack tbl (.store t n ⟨me,sp,R⟩) 1 0 (dJ t n ⟨me,sp,R⟩) [] rfl rfl rfl rfl ?_;refine aC.unpack tbl (.sweep t n ⟨2,N,m,i,ks,fs,gs,j,l⟩) 0 1 (S9 t n ⟨2,N,m,i,ks,fs,gs,j,l⟩) [1] rfl rfl rfl rfl ?_;refine aFm t n me sp R ⟨2,N,m,i,ks,fs,gs,j,l⟩ s _ ?_;unfold S8;have ho:2*t≤i∧1≤l∧gs.length=j+l∧ -1000000≤List.getD gs (j+Int.toNat 0*1) 0∧List.getD gs (j+Int.toNat 0*1) 0≤1000000:=ho;refine⟨⟨⟨rfl,rfl,rfl,rfl,rfl,rfl,rfl,rfl,rfl⟩,ht,hn,hc,ho.1,⟨ho.2.1,ho.2.2.1⟩,ho.2.2.2⟩,?_⟩;unfold swF at hK;dsimp only at hK⊢;cases h1:ieq ((l - 1:Nat):Int) 0 with
 | false=>
   rw [h1]at hK;exact vD (zR (o:=⟨false,⟨2,N,m,i,ks,fs,gs,j+1,l - 1⟩,⟨me,sp,R⟩,s.added (bZ n gs j) 1⟩) [0,1,2,3,4,5,6,7,8,9,10,11] hK rfl rfl)
 | true=>
   rw [h1]at hK;exact ES (zR (o:=⟨true,⟨3,N,m,i,ks,fs,gs,j,l⟩,⟨me,sp,ks⟩,s.added (bZ n gs j) 1⟩) [0,1,2,3,6] hK rfl rfl)
theorem YL(t n:Int)(y:SWS)(st:STS)(s:MS)(K:AVal→aD Ob→Prop)(ok:sH t n y st s)(hK:(swF t n y st s).left t n K):cT' 195 [.ptr 0 0,.ptr 2 0] (swH t n y st s) K:=by
 match h:y.ph with
 | 0=>exact sw0 t n y st s K h ok hK
 | 1=>exact sw1 t n y st s K h ok hK
 | 2=>exact sw2 t n y st s K h ok hK
 | k+3=>have:=ok.ho;unfold ZN at this;rw [h]at this;exact this.elim
theorem fM{I:Itp Ob}{n:Nat}{K:AVal→aD Ob→Prop}{d:Bool}{a b g:aD Ob}(hK:(Out.ite d (.ret (.bool true) a) (.ret (.bool false) b)).run K)(h1:K (.bool true) a→iV I n K (.bool true) g)(h2:d=false→K (.bool false) b→iV I n K (.bool false) g):iV I n K (.bool d) g:=by
 cases d with
 | true=>exact h1 hK
 | false=>exact h2 rfl hK
abbrev stC(l:Nat)(t n:Int)(st:STS):Option (aM Mc):=some (.cells [.I t,.I n,.I st.me,.I st.sp,.slice l 0 st.R.length 1])
abbrev hO(st:STS):Option (aM Mc):=some (.ints (some .i64) st.R)
def lL(w:Nat)(h:aD Ob):Option (Nat×Int×Int×STS):=match h with
 | [some (.cells [.int .i64 t,.int .i64 n,.int .i64 me,.int .i64 sp,.slice l 0 len 1]),some (.ints (some .i64) xs)]=>if l=w then some (len,t,n,⟨me,sp,xs⟩)else none
 | _=>none
theorem cH{w:Nat}{h:aD Ob}{l:Nat}{t n:Int}{st:STS}(e:lL w h=some (l,t,n,st))(hl:l=st.R.length):h=[stC w t n st,hO st]:=by
 unfold lL at e;split at e
 ·split at e
  ·rename_i hw;simp only [sI',pI']at e;obtain⟨rfl,rfl,rfl,rfl⟩:=e;subst hw;simp only at hl;subst hl;rfl
  ·cases e
 ·cases e
theorem jP{f:FuncId}{t n:Int}{st st':STS}{s s':MS}{M:Mc}{e1 e2:aM Mc}{d:Bool}(h1: ∀ι:Nat→Nat,ι 1=1→e1.ren ι=e1)(h2: ∀ι:Nat→Nat,ι 1=1→e2.ren ι=e2)
 (hA: ∀K,(Out.ite d (.ret (.bool true) [some e1,some (.abs (.store t n st') []),aY 3 s',aZ s']) (.ret (.bool false) [some e2,some (.abs (.store t n st') []),aY 3 s',aZ s'])).run K→cT' f [.ptr 0 0,.ptr 2 0] [some (.abs M [1]),some (.abs (.store t n st) []),aY 3 s,aZ s] K)
 (K:AVal→aD Ob→Prop) (hK:(Out.ite d (.ret (.bool true) [some e1,stC 5 t n st',none,aY 4 s',aZ s',hO st']) (.ret (.bool false) [some e2,stC 5 t n st',none,aY 4 s',aZ s',hO st'])).run K):
 cT' f [.ptr 0 0,.ptr 3 0] [some (.abs M [1]),stC 2 t n st,hO st,aY 4 s,aZ s] K:=by
 refine aGn ?_;refine aGy (h0:=[some (.abs M [1]),stC 4 t n st,aY 3 s,aZ s,hO st]) (args0:=[.ptr 0 0,.ptr 2 0]) (K0:=fun v g=>iV (obI tbl) 5 K (v.ren (iota [0,1,3,4,2] 5)) (pU [some (.abs M [1]),stC 2 t n st,hO st,aY 4 s,aZ s] [0,1,3,4,2] g)) ?_ [0,1,3,4,2] rfl (by decide) (by intro l hl;simp at hl⊢;omega) ?_ rfl (fun v g hk _=>hk)
 ·refine aC.shut tbl [some (.abs M [1]),some (.abs (.store t n st) []),aY 3 s,aZ s] (.store t n st) 1 0 (dJ t n st) [] (by kernel_rfl) rfl rfl (by kernel_rfl) (hA _ ?_)
  have i1:farI 4 1 1=1:=rfl;have i2:iota [0,1,3,4,2] 5 1=1:=rfl;cases d with
  | true=>
    have q1:((e1.ren (farI 4 1)).ren (iota [0,1,3,4,2] 5))=e1:=by rw [h1 _ i1,h1 _ i2]
    refine⟨_,_,aF.trans (aF.eq (g2:=[some e1,some (.abs (.store t n st') []),none,aY 4 s',aZ s']) (by kernel_rfl) ?_) (aF.unpack (.store t n st') 1 0 (dJ t n st') [] rfl rfl rfl rfl),hK⟩
    show [some ((e1.ren (farI 4 1)).ren (iota [0,1,3,4,2] 5)),_,_,_,_]=_;rw [q1];rfl
  | false=>
    have q2:((e2.ren (farI 4 1)).ren (iota [0,1,3,4,2] 5))=e2:=by rw [h2 _ i1,h2 _ i2]
    refine⟨_,_,aF.trans (aF.eq (g2:=[some e2,some (.abs (.store t n st') []),none,aY 4 s',aZ s']) (by kernel_rfl) ?_) (aF.unpack (.store t n st') 1 0 (dJ t n st') [] rfl rfl rfl rfl),hK⟩
    show [some ((e2.ren (farI 4 1)).ren (iota [0,1,3,4,2] 5)),_,_,_,_]=_;rw [q2];rfl
 ·intro i l hi
  match i,hi with
  | 0,hi=>cases hi;rfl
  | 1,hi=>cases hi;rfl
  | 2,hi=>cases hi;rfl
  | 3,hi=>cases hi;rfl
  | 4,hi=>cases hi;rfl
  | _+5,hi=>cases hi
def bV(kd:Int):Bool:=ieq kd 1||ieq kd 4
def oL(sh kd:Int):Bool:=ieq kd 5&&ieq sh 4
def eU(sh kd:Int):Bool:=ieq kd 2||ieq kd 5&&ieq sh 3
def gG(ky curr cw:Int):Bool:=bif ieq curr 0 then false else ieq (aA cw 0 10) ky
def b9(sh ky:Int):Int:=bif ieq sh 2 then ky%4 else 0
def bW(sh kd ky:Int):Int:=bif ieq sh 2 then ky else bif ieq sh 1 then ky else bif ieq sh 3 then(bif bV kd then 1024 else -1)else -1
def Q7:bO Ob:=fun args h=>match args,h with
 | [.agg [.int .i64 t,.int .i64 n],.int .i64 a],[]=>some ((0≤n∧n≤100000)∧(-1000000≤a∧a≤1000000),.I (n+1+a))
 | _,_=>none
theorem W6:sT' 65 Q7.spec:=by
 intro args h o ho K hK;unfold bO.spec Q7 at ho;split at ho
 case h_2=>cases ho
 rename_i p v hp;split at hp
 case h_2=>cases hp
 rename_i t n a;simp only [sI',pI']at hp;obtain⟨rfl,rfl⟩:=hp;simp only [sI']at ho;subst ho;obtain⟨hp,hK⟩:=hK;have hK:K (.I (n+1+a)) []:=hK;refine aFQ (cM' (E:=enE) (q:=K (.I (W (W (1+n)+a))) []) (by kernel_rfl) ?_)
 simp(disch:=omega) only [W,cJ]
 refine cast (congrArg (fun z=>K (AVal.int .i64 z) []) ?_) hK;omega
def IK:bO Ob:=fun args h=>match args,h with
 | [.agg [.int .i64 k,.int .i64 y,.bool m,.int .i64 c,.int .i64 v]],[]=>some (0≤v∧v≤1000000,.agg [.I k,.I y,.bool m,.I 0,.I (aR v)])
 | _,_=>none
theorem TI:sT' 165 IK.spec:=by
 intro args h o ho K hK;unfold bO.spec IK at ho;split at ho
 case h_2=>cases ho
 rename_i p v hp;split at hp
 case h_2=>cases hp
 rename_i k y m c v;simp only [sI',pI']at hp;obtain⟨rfl,rfl⟩:=hp;simp only [sI']at ho;subst ho;obtain⟨hp,hK⟩:=hK;have hK:K (.agg [.I k,.I y,.bool m,.I 0,.I (aR v)]) []:=hK;refine aFQ (cM' (E:=enE) (q:=K (.agg [.I k,.I y,.bool m,.I 0,.I (W (↑(BitVec.toNat (BitVec.ofInt (IntKind.bits .i64) (W (v+1))&&&BitVec.ofInt (IntKind.bits .i64) 262143)):Int))]) []) (by kernel_rfl) ?_)
 refine cast (congrArg (fun z=>K (.agg [.I k,.I y,.bool m,.I 0,.I z]) []) ?_) hK;show aR v=_;have hb:IntKind.bits .i64 =64:=rfl;simp only [W];rw [hb,cJ (x:=v+1) (by omega)]
 have:=jR (n:=64) (w:=18) (v+1) (by omega)
 have e:(2:Int)^18 - 1=262143:=by decide
 rw [e]at this;rw [this];have e2:(2:Int)^18=262144:=by decide
 rw [e2,cJ (by omega)]
 rfl
def B7:bO Ob:=fun args h=>match args,h with
 | [.agg [.int .i64 k,.int .i64 y,.bool m,.int .i64 c,.int .i64 v],.int .i64 b,.int .i64 x,.bool q],[]=>some (-1000000≤b∧b≤1000000,.agg [.I k,.I x,.bool q,.I (b+1),.I v])
 | _,_=>none
theorem OW:sT' 168 B7.spec:=by
 intro args h o ho K hK;unfold bO.spec B7 at ho;split at ho
 case h_2=>cases ho
 rename_i p v hp;split at hp
 case h_2=>cases hp
 rename_i k y m c v b x q;simp only [sI',pI']at hp;obtain⟨rfl,rfl⟩:=hp;simp only [sI']at ho;subst ho;obtain⟨hp,hK⟩:=hK;have hK:K (.agg [.I k,.I x,.bool q,.I (b+1),.I v]) []:=hK;refine aFQ (cM' (E:=enE) (q:=K (.agg [.I k,.I x,.bool q,.I (W (b+1)),.I v]) []) (by kernel_rfl) ?_)
 rw [vM (by omega)]
 exact hK
def B0:bO Ob:=fun args h=>match args,h with
 | [.agg [.int .i64 sh,.int .i64 kd,.int .i64 ky]],[]=>some (True,.bool (bV kd))
 | _,_=>none
theorem OT:sT' 84 B0.spec:=by
 intro args h o ho K hK;unfold bO.spec B0 at ho;split at ho
 case h_2=>cases ho
 rename_i p v hp;split at hp
 case h_2=>cases hp
 rename_i sh kd ky;simp only [sI',pI']at hp;obtain⟨rfl,rfl⟩:=hp;simp only [sI']at ho;subst ho;obtain⟨hp,hK⟩:=hK;have hK:K (.bool (bV kd)) []:=hK;refine aFQ (cM' (E:=enE) (q:=bif ieq kd 1 then K (.bool true) []else K (.bool (ieq kd 4)) []) (by kernel_rfl) ?_)
 unfold bV at hK;cases h:ieq kd 1<;>rw [h]at hK<;>exact hK
def IJ:bO Ob:=fun args h=>match args,h with
 | [.agg [.int .i64 sh,.int .i64 kd,.int .i64 ky]],[]=>some (True,.bool (oL sh kd))
 | _,_=>none
theorem TD:sT' 212 IJ.spec:=by
 intro args h o ho K hK;unfold bO.spec IJ at ho;split at ho
 case h_2=>cases ho
 rename_i p v hp;split at hp
 case h_2=>cases hp
 rename_i sh kd ky;simp only [sI',pI']at hp;obtain⟨rfl,rfl⟩:=hp;simp only [sI']at ho;subst ho;obtain⟨hp,hK⟩:=hK;have hK:K (.bool (oL sh kd)) []:=hK;refine aFQ (cM' (E:=enE) (q:=bif ieq kd 5 then K (.bool (ieq sh 4)) []else K (.bool false) []) (by kernel_rfl) ?_)
 unfold oL at hK;cases h:ieq kd 5<;>rw [h]at hK<;>exact hK
def B1:bO Ob:=fun args h=>match args,h with
 | [.agg [.int .i64 sh,.int .i64 kd,.int .i64 ky]],[]=>some (True,.bool (eU sh kd))
 | _,_=>none
theorem OU:sT' 220 B1.spec:=by
 intro args h o ho K hK;unfold bO.spec B1 at ho;split at ho
 case h_2=>cases ho
 rename_i p v hp;split at hp
 case h_2=>cases hp
 rename_i sh kd ky;simp only [sI',pI']at hp;obtain⟨rfl,rfl⟩:=hp;simp only [sI']at ho;subst ho;obtain⟨hp,hK⟩:=hK;have hK:K (.bool (eU sh kd)) []:=hK;refine aFQ (cM' (E:=enE) (q:=bif ieq kd 2 then K (.bool true) []else bif ieq kd 5 then K (.bool (ieq sh 3)) []else K (.bool false) []) (by kernel_rfl) ?_)
 unfold eU at hK;cases h:ieq kd 2<;>cases h2:ieq kd 5<;>rw [h]at hK<;>rw [h2]at hK<;>exact hK
noncomputable def hasCS:aG Ob:=nP [(.slot 0,.ints (some .i64))] WY.spec
theorem WX:sT' 124 hasCS:=nQ Q1
noncomputable def EB0:=((((((enE.addS 124 hasCS WX).addR 65 Q7 W6).addR 165 IK TI).addR 168 B7 OW).addR 84 B0 OT).addR 212 IJ TD).addR 220 B1 OU
def isS:aG Ob:=fun args h=>match args,h with
 | [.agg [.int .i64 a,.int .i64 b,.int .i64 c,.int .i64 d,.bool m,.int .i64 e,.int .i64 f],.slice 0 0 1 1],[some (.cells [.int .i64 s])]=>some (.ret (.bool (hasB [s] e)) [some (.ints (some .i64) [s])])
 | _,_=>none
theorem aD6:sT' 172 isS:=by
 intro args h o ho K hK;unfold isS at ho;split at ho<;>cases ho
 rename_i a b c d m e f s;have hK:K (.bool (hasB [s] e)) [some (.ints (some .i64) [s])]:=hK;refine aFQ (cM' (E:=EB0) (q:=(1=1∧(1:Nat)≤(4294967296:Nat))∧K (.bool (hasB [s] e)) [some (.ints (some .i64) [s])]) (by kernel_rfl) ?_)
 exact⟨⟨rfl,by omega⟩,hK⟩
noncomputable def EB0b:=EB0.addS 172 isS aD6
def PY:bO Ob:=fun args h=>match args,h with
 | [.int .u64 x],[]=>some (True,.I (aA x 20 5 - 1))
 | _,_=>none
theorem US:sT' 161 PY.spec:=by
 intro args h o ho K hK;unfold bO.spec PY at ho;split at ho
 case h_2=>cases ho
 rename_i p v hp;split at hp
 case h_2=>cases hp
 rename_i x;simp only [sI',pI']at hp;obtain⟨rfl,rfl⟩:=hp;simp only [sI']at ho;subst ho;obtain⟨hp,hK⟩:=hK;have hK:K (.I (aA x 20 5 - 1)) []:=hK;refine aFQ (cM' (E:=EB0b) (q:=True∧K (.I (W (aA x 20 5 - 1))) []) (by kernel_rfl) ?_)
 have hb:0≤aA x 20 5∧aA x 20 5<32:=by
  unfold aA;have e:(2:Int)^(5:Int).toNat =32:=by decide
  rw [e];exact⟨Int.emod_nonneg _ (by decide),Int.emod_lt_of_pos _ (by decide)⟩
 have e1:W (aA x 20 5 - 1)=aA x 20 5 - 1:=cJ (by omega)
 rw [e1];exact⟨trivial,hK⟩
def G7:bO Ob:=fun args h=>match args,h with
 | [.agg [.int .i64 a,.int .i64 b,.int .i64 c,.int .i64 d,.bool m,.int .i64 e,.int .i64 f],.int .i64 g],[]=>some (True,.agg [.I a,.I b,.I c,.I d,.bool m,.I g,.I f])
 | _,_=>none
theorem QA:sT' 163 G7.spec:=by
 intro args h o ho K hK;unfold bO.spec G7 at ho;split at ho
 case h_2=>cases ho
 rename_i p v hp;split at hp
 case h_2=>cases hp
 rename_i a b c d m e f g;simp only [sI',pI']at hp;obtain⟨rfl,rfl⟩:=hp;simp only [sI']at ho;subst ho;obtain⟨hp,hK⟩:=hK;have hK:K (.agg [.I a,.I b,.I c,.I d,.bool m,.I g,.I f]) []:=hK;refine aFQ (cM' (E:=EB0b) (q:=K (.agg [.I a,.I b,.I c,.I d,.bool m,.I g,.I f]) []) (by kernel_rfl) ?_)
 exact hK
noncomputable def EB0c:=(EB0b.addR 161 PY US).addR 163 G7 QA
def B4:bO Ob:=fun args h=>match args,h with
 | [.agg [.int .i64 sh,.int .i64 kd,.int .i64 ky]],[]=>some (True,.agg [.I (b9 sh ky),.I (bW sh kd ky)])
 | _,_=>none
theorem OV:sT' 131 B4.spec:=by
 intro args h o ho K hK;unfold bO.spec B4 at ho;split at ho
 case h_2=>cases ho
 rename_i p v hp;split at hp
 case h_2=>cases hp
 rename_i sh kd ky;simp only [sI',pI']at hp;obtain⟨rfl,rfl⟩:=hp;simp only [sI']at ho;subst ho;obtain⟨hp,hK⟩:=hK;have hK:K (.agg [.I (b9 sh ky),.I (bW sh kd ky)]) []:=hK;refine aFQ (cM' (E:=EB0c) (q:=bif ieq sh 2 then K (.agg [.I (W (↑(BitVec.toNat (BitVec.ofInt (IntKind.bits .i64) ky&&&BitVec.ofInt (IntKind.bits .i64) 3)):Int)),.I ky]) []else bif ieq sh 1 then K (.agg [.I 0,.I ky]) []else bif ieq sh 2 then K (.agg [.I 0,.I ky]) []else bif ieq sh 3 then True∧bif bV kd then K (.agg [.I 0,.I 1024]) []else K (.agg [.I 0,.I (-1:Int)]) []else K (.agg [.I 0,.I (-1:Int)]) []) (by kernel_rfl) ?_)
 have e4:W (((BitVec.ofInt (IntKind.bits .i64) ky&&&BitVec.ofInt (IntKind.bits .i64) 3).toNat :Nat):Int)=ky%4:=by
  have hb:IntKind.bits .i64 =64:=rfl;rw [hb];have:=jR (n:=64) (w:=2) ky (by omega)
  have e:(2:Int)^2 - 1=3:=by decide
  rw [e]at this;rw [this];have e2:(2:Int)^2=4:=by decide
  rw [e2];exact cJ (by omega)
 unfold b9 bW at hK;refine aL (fun e=>?_) (fun e=>aL (fun e1=>?_) (fun e1=>aL (fun e2=>?_) (fun e2=>aL (fun e3=>⟨trivial,aL (fun e5=>?_) (fun e5=>?_)⟩) (fun e3=>?_))))
 ·rw [e]at hK;rw [e4];exact hK
 ·rw [e,e1]at hK;exact hK
 ·rw [e]at e2;cases e2
 ·rw [e,e1,e3,e5]at hK;exact hK
 ·rw [e,e1,e3,e5]at hK;exact hK
 ·rw [e,e1,e3]at hK;exact hK
def BI:bO Ob:=fun args h=>match args,h with
 | [.agg [.int .i64 sh,.int .i64 kd,.int .i64 ky,.int .i64 pred,.int .u64 pw,.int .i64 curr,.int .u64 cw]],[]=>some (True,.bool (gG ky curr cw))
 | _,_=>none
theorem N2:sT' 200 BI.spec:=by
 intro args h o ho K hK;unfold bO.spec BI at ho;split at ho
 case h_2=>cases ho
 rename_i p v hp;split at hp
 case h_2=>cases hp
 rename_i sh kd ky pred pw curr cw;simp only [sI',pI']at hp;obtain⟨rfl,rfl⟩:=hp;simp only [sI']at ho;subst ho;obtain⟨hp,hK⟩:=hK;have hK:K (.bool (gG ky curr cw)) []:=hK;refine aFQ (cM' (E:=EB0c) (q:=bif !ieq curr 0 then True∧K (.bool (ieq (aA cw 0 10) ky)) []else K (.bool false) []) (by kernel_rfl) ?_)
 unfold gG at hK;cases h:ieq curr 0 with
 | true=>rw [h]at hK;exact hK
 | false=>rw [h]at hK;exact⟨trivial,hK⟩
noncomputable def EB1:=(EB0c.addR 131 B4 OV).addR 200 BI N2
def ZO(v:AVal)(g:aD Ob):Option (Prop×PLN):=match v,g with
 | .agg [.bool now,.int .i64 code,.bool okk,.int .i64 val,.int .i64 addr,.int .u64 old,.int .i64 nxt,.bool mark,.int .i64 pops],[]=>some (True,⟨now,code,okk,val,addr,old,nxt,mark,pops⟩)
 | _,_=>none
def SB(y:PLN):AVal:=.agg [.bool y.now,.I y.code,.bool y.okk,.I y.val,.I y.addr,.int .u64 y.old,.I y.nxt,.bool y.mark,.I y.pops]
theorem SA:cE (obI tbl) 0 ZO (fun y=>.ret (SB y) []):=by
 intro v g p x hp hq K hK;unfold ZO at hp;split at hp
 case h_2=>cases hp
 simp only [sI',pI']at hp;obtain⟨rfl,rfl⟩:=hp;exact⟨⟨_,_,aF.refl _ _ _,hK⟩⟩
abbrev w02:Tr (PLN):=.pre True (.ret {now:=true,code:=0,okk:=false,val:=0,addr:=0,old:=0,nxt:=0,mark:=false,pops:=0})
abbrev w00(curr cw kd ky pred pw sh:Int):Tr (PLN):=.ite (ieq kd 5) (.ite (ieq curr 0) w02 (.pre True (.pre True (.ite (oL sh kd) (.pre True (.pre True (.pre True (.ret {now:=false,code:=0,okk:=true,val:=aA cw 0 10,addr:=pred,old:=pw,nxt:=aA cw 10 9,mark:=ieq (aA pw 19 1) 1,pops:=curr})))) (.pre True (.pre True (.ret {now:=false,code:=0,okk:=true,val:=aA cw 0 10,addr:=curr,old:=cw,nxt:=aA cw 10 9,mark:=true,pops:=0}))))))) (.ite (ieq kd 3) (.pre True (.pre True (.ret {now:=true,code:=0,okk:=gG ky curr cw,val:=0,addr:=0,old:=0,nxt:=0,mark:=false,pops:=0}))) w02)
abbrev w01(curr cw:Int):Tr (PLN):=.pre True (.pre True (.ret {now:=false,code:=0,okk:=true,val:=0,addr:=curr,old:=cw,nxt:=aA cw 10 9,mark:=true,pops:=0}))
abbrev w03(pred pw spare:Int):Tr (PLN):=.pre True (.pre True (.ret {now:=false,code:=0,okk:=true,val:=0,addr:=pred,old:=pw,nxt:=spare,mark:=ieq (aA pw 19 1) 1,pops:=0}))
def zK(sh kd ky pred pw curr cw spare:Int):Tr (PLN):=.pre True (.ite (!a8 sh kd ky) (.pre True (.ret {now:=true,code:=1,okk:=false,val:=0,addr:=0,old:=0,nxt:=0,mark:=false,pops:=0})) (.ite (ieq kd 4) (.ite (ieq kd 4) (w03 pred pw spare) (.ite (ieq kd 2) (.pre True (.ite (gG ky curr cw) (w01 curr cw) (w00 curr cw kd ky pred pw sh))) (w00 curr cw kd ky pred pw sh))) (.ite (ieq kd 1) (.pre True (.ite (!gG ky curr cw) (w03 pred pw spare) (.ite (ieq kd 2) (.pre True (.ite (gG ky curr cw) (w01 curr cw) (w00 curr cw kd ky pred pw sh))) (w00 curr cw kd ky pred pw sh)))) (.ite (ieq kd 2) (.pre True (.ite (gG ky curr cw) (w01 curr cw) (w00 curr cw kd ky pred pw sh))) (w00 curr cw kd ky pred pw sh)))))
def aJ(sh kd ky pred pw curr cw spare:Int):PLN:=(zK sh kd ky pred pw curr cw spare).val
def w6(sh kd ky pred pw curr cw spare:Int):Prop:=(zK sh kd ky pred pw curr cw spare).ok
def planS:aG Ob:=fun args h=>match args,h with
 | [.agg [.int .i64 sh,.int .i64 kd,.int .i64 ky],.agg [.int .i64 pred,.int .u64 pw,.int .i64 curr,.int .u64 cw],.int .i64 spare],[]=>some (.pre (w6 sh kd ky pred pw curr cw spare) (.ret (SB (aJ sh kd ky pred pw curr cw spare)) []))
 | _,_=>none
theorem XU:sT' 157 planS:=by
 intro args h o ho K hK;unfold planS at ho;split at ho<;>cases ho
 rename_i sh kd ky pred pw curr cw spare;obtain⟨ok,hK⟩:=hK;refine aF0 (root:=0) (pos:=[]) (cs:=[]) SA ?_;exact cM' (E:=EB1) (q:=(zK sh kd ky pred pw curr cw spare).run (fun y=>(Out.ret (SB y) []).run K)) (by kernel_rfl) (aFW ok hK)
def SC(v:AVal)(g:aD Ob):Option (Prop×Int):=match v,g with
 | .int .u64 x,[]=>some (True,x)
 | _,_=>none
def IB(y:Int):AVal:=.int .u64 y
theorem N9:cE (obI tbl) 0 SC (fun y=>.ret (IB y) []):=by
 intro v g p x hp hq K hK;unfold SC at hp;split at hp
 case h_2=>cases hp
 simp only [sI',pI']at hp;obtain⟨rfl,rfl⟩:=hp;exact⟨⟨_,_,aF.refl _ _ _,hK⟩⟩
def tO(now:Bool)(code:Int)(okk:Bool)(val:Int)(addr:Int)(old:Int)(nxt:Int)(mark:Bool)(pops:Int):Tr (Int):=.ite now (.pre True (.ret 0)) (.pre True (.pre ((-1000000:Int)≤(0:Int)∧(0:Int)≤(1000000:Int)) (.pre ((0:Int)≤aA old 25 18∧aA old 25 (18:Int)≤(1000000:Int)) (.pre True (.pre True (.ret (bif bif aH (aA old 0 10) 10 then bif aH nxt 9 then bif aH 0 5 then aH (aR (aA old 25 18)) 18 else false else false else false then bY (aA old 0 10) nxt mark 0 (aR (aA old 25 18))else 0)))))))
def dD(now:Bool)(code:Int)(okk:Bool)(val:Int)(addr:Int)(old:Int)(nxt:Int)(mark:Bool)(pops:Int):Int:=(tO now code okk val addr old nxt mark pops).val
def BK(now:Bool)(code:Int)(okk:Bool)(val:Int)(addr:Int)(old:Int)(nxt:Int)(mark:Bool)(pops:Int):Prop:=(tO now code okk val addr old nxt mark pops).ok
def planWS:aG Ob:=fun args h=>match args,h with
 | [.agg [.bool now,.int .i64 code,.bool okk,.int .i64 val,.int .i64 addr,.int .u64 old,.int .i64 nxt,.bool mark,.int .i64 pops]],[]=>some (.pre (BK now code okk val addr old nxt mark pops) (.ret (IB (dD now code okk val addr old nxt mark pops)) []))
 | _,_=>none
theorem SD:sT' 100 planWS:=by
 intro args h o ho K hK;unfold planWS at ho;split at ho<;>cases ho
 rename_i now code okk val addr old nxt mark pops;obtain⟨ok,hK⟩:=hK;refine aF0 (root:=0) (pos:=[]) (cs:=[]) N9 ?_;exact cM' (E:=EB1) (q:=(tO now code okk val addr old nxt mark pops).run (fun y=>(Out.ret (IB y) []).run K)) (by kernel_rfl) (aFW ok hK)
def R6(v:AVal)(g:aD Ob):Option (Prop×Bool):=match v,g with
 | .bool x,[]=>some (True,x)
 | _,_=>none
def H9(y:Bool):AVal:=.bool y
theorem N4:cE (obI tbl) 0 R6 (fun y=>.ret (H9 y) []):=by
 intro v g p x hp hq K hK;unfold R6 at hp;split at hp
 case h_2=>cases hp
 simp only [sI',pI']at hp;obtain⟨rfl,rfl⟩:=hp;exact⟨⟨_,_,aF.refl _ _ _,hK⟩⟩
def tL(now:Bool)(code:Int)(okk:Bool)(val:Int)(addr:Int)(old:Int)(nxt:Int)(mark:Bool)(pops:Int):Tr (Bool):=.ite (!now) (.pre True (.pre True (.ret !ieq (aA old 20 5) 0))) (.pre True (.ret false))
def lJ(now:Bool)(code:Int)(okk:Bool)(val:Int)(addr:Int)(old:Int)(nxt:Int)(mark:Bool)(pops:Int):Bool:=(tL now code okk val addr old nxt mark pops).val
def pH(now:Bool)(code:Int)(okk:Bool)(val:Int)(addr:Int)(old:Int)(nxt:Int)(mark:Bool)(pops:Int):Prop:=(tL now code okk val addr old nxt mark pops).ok
def planCS:aG Ob:=fun args h=>match args,h with
 | [.agg [.bool now,.int .i64 code,.bool okk,.int .i64 val,.int .i64 addr,.int .u64 old,.int .i64 nxt,.bool mark,.int .i64 pops]],[]=>some (.pre (pH now code okk val addr old nxt mark pops) (.ret (H9 (lJ now code okk val addr old nxt mark pops)) []))
 | _,_=>none
theorem R7:sT' 158 planCS:=by
 intro args h o ho K hK;unfold planCS at ho;split at ho<;>cases ho
 rename_i now code okk val addr old nxt mark pops;obtain⟨ok,hK⟩:=hK;refine aF0 (root:=0) (pos:=[]) (cs:=[]) N4 ?_;exact cM' (E:=EB1) (q:=(tL now code okk val addr old nxt mark pops).run (fun y=>(Out.ret (H9 y) []).run K)) (by kernel_rfl) (aFW ok hK)
def R8(v:AVal)(g:aD Ob):Option (Prop×(Int×Int)):=match v,g with
 | .tup [.int .u64 x,.int .i64 e],[]=>some (True,(x,e))
 | _,_=>none
def IA(y:(Int×Int)):AVal:=.tup [.int .u64 y.1,.I y.2]
theorem N6:cE (obI tbl) 0 R8 (fun y=>.ret (IA y) []):=by
 intro v g p x hp hq K hK;unfold R8 at hp;split at hp
 case h_2=>cases hp
 simp only [sI',pI']at hp;obtain⟨rfl,rfl⟩:=hp;exact⟨⟨_,_,aF.refl _ _ _,hK⟩⟩
def wZ(now:Bool)(code:Int)(okk:Bool)(val:Int)(addr:Int)(old:Int)(nxt:Int)(mark:Bool)(pops:Int)(att:Int):Tr ((Int×Int)):=.ite now (.pre True (.ret (0,5))) (.pre True (.pre True (.pre True (.ret (bif dOk att addr (aA old 25 18) nxt 2 val then cT att addr (aA old 25 18) nxt mark 2 val else 0,bif dOk att addr (aA old 25 18) nxt 2 val then 0 else 2)))))
def gM(now:Bool)(code:Int)(okk:Bool)(val:Int)(addr:Int)(old:Int)(nxt:Int)(mark:Bool)(pops:Int)(att:Int):(Int×Int):=(wZ now code okk val addr old nxt mark pops att).val
def BJ(now:Bool)(code:Int)(okk:Bool)(val:Int)(addr:Int)(old:Int)(nxt:Int)(mark:Bool)(pops:Int)(att:Int):Prop:=(wZ now code okk val addr old nxt mark pops att).ok
def planDS:aG Ob:=fun args h=>match args,h with
 | [.agg [.bool now,.int .i64 code,.bool okk,.int .i64 val,.int .i64 addr,.int .u64 old,.int .i64 nxt,.bool mark,.int .i64 pops],.int .i64 att],[]=>some (.pre (BJ now code okk val addr old nxt mark pops att) (.ret (IA (gM now code okk val addr old nxt mark pops att)) []))
 | _,_=>none
theorem R9:sT' 116 planDS:=by
 intro args h o ho K hK;unfold planDS at ho;split at ho<;>cases ho
 rename_i now code okk val addr old nxt mark pops att;obtain⟨ok,hK⟩:=hK;refine aF0 (root:=0) (pos:=[]) (cs:=[]) N6 ?_;exact cM' (E:=EB1) (q:=(wZ now code okk val addr old nxt mark pops att).run (fun y=>(Out.ret (IA y) []).run K)) (by kernel_rfl) (aFW ok hK)
noncomputable def EB2:=(((EB1.addS 157 planS XU).addS 100 planWS SD).addS 158 planCS R7).addS 116 planDS R9
abbrev aAU(x:ENS):aM Mc:=.cells [.ptr 1 0,.bool x.sh,.O,.O,.bool x.dn]
theorem VR{t n:Int}{x:ENS}{st:STS}{s:MS} :aF (obI tbl) 4 (.bool true) [some (.abs (.ensure t n x) [1]),some (.abs (.store t n st) []),aY 3 s,aZ s] (.bool true) [some (aAU x),some (.abs (.store t n st) []),aY 3 s,aZ s]:=by
 obtain⟨ph,sh,dn,a,y⟩:=x
 match ph with
 | 0=>exact(aF.unpack (.ensure t n ⟨0,sh,dn,a,y⟩) 0 1 (JD t n ⟨0,sh,dn,a,y⟩) [1] rfl rfl (by kernel_rfl) rfl).trans ((aF.weak (cD _ 0 [2,3])).trans ((aF.pick (upto 0 4) rfl).trans (aF.eq (by kernel_rfl) (by kernel_rfl))))
 | 1=>exact(aF.unpack (.ensure t n ⟨1,sh,dn,a,y⟩) 0 1 (JD t n ⟨1,sh,dn,a,y⟩) [1] rfl rfl (by kernel_rfl) rfl).trans ((aF.weak (cD _ 0 [2,3])).trans ((aF.pick (upto 0 4) rfl).trans (aF.eq (by kernel_rfl) (by kernel_rfl))))
 | 2=>exact(aF.unpack (.ensure t n ⟨2,sh,dn,a,y⟩) 0 1 (JD t n ⟨2,sh,dn,a,y⟩) [1] rfl rfl (by kernel_rfl) rfl).trans ((aF.weak (cD _ 0 [2,3])).trans ((aF.pick (upto 0 4) rfl).trans (aF.eq (by kernel_rfl) (by kernel_rfl))))
 | 3=>exact(aF.unpack (.ensure t n ⟨3,sh,dn,a,y⟩) 0 1 (JD t n ⟨3,sh,dn,a,y⟩) [1] rfl rfl (by kernel_rfl) rfl).trans ((aF.weak (cD _ 0 [2,3])).trans ((aF.pick (upto 0 4) rfl).trans (aF.eq (by kernel_rfl) (by kernel_rfl))))
 | k+4=>exact(aF.unpack (.ensure t n ⟨k+4,sh,dn,a,y⟩) 0 1 (JD t n ⟨k+4,sh,dn,a,y⟩) [1] rfl rfl (by kernel_rfl) rfl).trans ((aF.weak (cD _ 0 [2,3])).trans ((aF.pick (upto 0 4) rfl).trans (aF.eq (by kernel_rfl) (by kernel_rfl))))
def EO.fin(t n:Int)(y:EO):Out Ob:=.ite y.d (.ret (.bool true) [some (aAU y.e),some (.abs (.store t n y.st) []),aY 3 y.s,aZ y.s]) (.ret (.bool false) [some (.abs (.ensure t n y.e) [1]),some (.abs (.store t n y.st) []),aY 3 y.s,aZ y.s])
theorem C8(t n:Int)(e:ENS)(st:STS)(s:MS)(K:AVal→aD Ob→Prop)(ok:okE t n e st s)(hK:((enF t n e st s).fin t n).run K):cT' 85 [.ptr 0 0,.ptr 2 0] (VM t n e st s) K:=by
 refine aGn (JI t n e st s _ ok ?_);show iV (obI tbl) 4 K (.bool (enF t n e st s).d) _;generalize enF t n e st s=y at hK⊢;exact sJ hK (fun h=>⟨⟨_,_,VR,h⟩⟩) (fun h=>⟨⟨_,_,aF.refl _ _ _,h⟩⟩)
noncomputable def enSA:aG Ob:=fun args h=>match args,h with
 | [.ptr 0 0,.ptr 2 0],[some (.abs (.ensure t n x) [1]),some (.abs (.store t2 n2 st) []),e3,e4]=>(match cU 3 [e3,e4]with
   | some (l,s)=>some (.pre ((l=s.xs.length∧t2=t∧n2=n)∧okE t n x st s) (EO.fin t n (enF t n x st s)))
   | none=>none)
 | _,_=>none
theorem aA0:sT' 85 enSA:=by
 intro args h o ho K hK;unfold enSA at ho;split at ho
 case h_2=>cases ho
 split at ho<;>cases ho
 rename_i hm;obtain⟨⟨⟨hl,rfl,rfl⟩,ok⟩,hK⟩:=hK;have hh:=bB hm hl;cases hh;exact C8 _ _ _ _ _ K ok hK
def EO.finB(t n:Int)(y:EO):Out Ob:=.ite y.d (.ret (.bool true) [some (aAU y.e),stC 5 t n y.st,none,aY 4 y.s,aZ y.s,hO y.st]) (.ret (.bool false) [some (.abs (.ensure t n y.e) [1]),stC 5 t n y.st,none,aY 4 y.s,aZ y.s,hO y.st])
noncomputable def enSB:aG Ob:=fun args h=>match args,h with
 | [.ptr 0 0,.ptr 3 0],[some (.abs (.ensure t n x) [1]),e1,e2,e3,e4]=>(match lL 2 [e1,e2],cU 4 [e3,e4]with
   | some (l2,t2,n2,st),some (l,s)=>some (.pre ((l=s.xs.length∧l2=st.R.length∧t2=t∧n2=n)∧okE t n x st s) (EO.finB t n (enF t n x st s)))
   | _,_=>none)
 | _,_=>none
theorem aA1:sT' 85 enSB:=by
 intro args h o ho K hK;unfold enSB at ho;split at ho
 case h_2=>cases ho
 split at ho<;>cases ho
 rename_i hs hm;obtain⟨⟨⟨hl,hl2,rfl,rfl⟩,ok⟩,hK⟩:=hK;have hh:=bB hm hl;cases hh;have hh:=cH hs hl2;cases hh;exact jP (fun ι hι=>by simp [aM.ren,aFY,AVal.ren,hι]) (fun ι hι=>by simp [aM.ren,hι]) (fun K hK=>C8 _ _ _ _ _ K ok hK) K hK
noncomputable def enS2:aG Ob:=aG.or enSA enSB
theorem aAZ:sT' 85 enS2:=aF6 aA0 aA1
abbrev aCG(x:SWS):aM Mc:=.cells [.ptr 1 0,.O]
theorem YK{t n:Int}{x:SWS}{st:STS}{s:MS} :aF (obI tbl) 4 (.bool true) [some (.abs (.sweep t n x) [1]),some (.abs (.store t n st) []),aY 3 s,aZ s] (.bool true) [some (aCG x),some (.abs (.store t n st) []),aY 3 s,aZ s]:=by
 obtain⟨ph,N,m,i,ks,fs,gs,j,l⟩:=x
 match ph with
 | 0=>exact(aF.unpack (.sweep t n ⟨0,N,m,i,ks,fs,gs,j,l⟩) 0 1 (S9 t n ⟨0,N,m,i,ks,fs,gs,j,l⟩) [1] rfl rfl (by kernel_rfl) rfl).trans ((aF.weak (cD _ 0 [1])).trans ((aF.pick (upto 0 4) rfl).trans (aF.eq (by kernel_rfl) (by kernel_rfl))))
 | 1=>exact(aF.unpack (.sweep t n ⟨1,N,m,i,ks,fs,gs,j,l⟩) 0 1 (S9 t n ⟨1,N,m,i,ks,fs,gs,j,l⟩) [1] rfl rfl (by kernel_rfl) rfl).trans ((aF.weak (cD _ 0 [1])).trans ((aF.pick (upto 0 4) rfl).trans (aF.eq (by kernel_rfl) (by kernel_rfl))))
 | 2=>exact(aF.unpack (.sweep t n ⟨2,N,m,i,ks,fs,gs,j,l⟩) 0 1 (S9 t n ⟨2,N,m,i,ks,fs,gs,j,l⟩) [1] rfl rfl (by kernel_rfl) rfl).trans ((aF.weak (cD _ 0 [1])).trans ((aF.pick (upto 0 4) rfl).trans (aF.eq (by kernel_rfl) (by kernel_rfl))))
 | k+3=>exact(aF.unpack (.sweep t n ⟨k+3,N,m,i,ks,fs,gs,j,l⟩) 0 1 (S9 t n ⟨k+3,N,m,i,ks,fs,gs,j,l⟩) [1] rfl rfl (by kernel_rfl) rfl).trans ((aF.weak (cD _ 0 [1])).trans ((aF.pick (upto 0 4) rfl).trans (aF.eq (by kernel_rfl) (by kernel_rfl))))
def SO.fin(t n:Int)(y:SO):Out Ob:=.ite y.d (.ret (.bool true) [some (aCG y.e),some (.abs (.store t n y.st) []),aY 3 y.s,aZ y.s]) (.ret (.bool false) [some (.abs (.sweep t n y.e) [1]),some (.abs (.store t n y.st) []),aY 3 y.s,aZ y.s])
theorem FZ(t n:Int)(e:SWS)(st:STS)(s:MS)(K:AVal→aD Ob→Prop)(ok:sH t n e st s)(hK:((swF t n e st s).fin t n).run K):cT' 195 [.ptr 0 0,.ptr 2 0] (swH t n e st s) K:=by
 refine aGn (YL t n e st s _ ok ?_);show iV (obI tbl) 4 K (.bool (swF t n e st s).d) _;generalize swF t n e st s=y at hK⊢;exact sJ hK (fun h=>⟨⟨_,_,YK,h⟩⟩) (fun h=>⟨⟨_,_,aF.refl _ _ _,h⟩⟩)
noncomputable def swSA:aG Ob:=fun args h=>match args,h with
 | [.ptr 0 0,.ptr 2 0],[some (.abs (.sweep t n x) [1]),some (.abs (.store t2 n2 st) []),e3,e4]=>(match cU 3 [e3,e4]with
   | some (l,s)=>some (.pre ((l=s.xs.length∧t2=t∧n2=n)∧sH t n x st s) (SO.fin t n (swF t n x st s)))
   | none=>none)
 | _,_=>none
theorem aCM:sT' 195 swSA:=by
 intro args h o ho K hK;unfold swSA at ho;split at ho
 case h_2=>cases ho
 split at ho<;>cases ho
 rename_i hm;obtain⟨⟨⟨hl,rfl,rfl⟩,ok⟩,hK⟩:=hK;have hh:=bB hm hl;cases hh;exact FZ _ _ _ _ _ K ok hK
def SO.finB(t n:Int)(y:SO):Out Ob:=.ite y.d (.ret (.bool true) [some (aCG y.e),stC 5 t n y.st,none,aY 4 y.s,aZ y.s,hO y.st]) (.ret (.bool false) [some (.abs (.sweep t n y.e) [1]),stC 5 t n y.st,none,aY 4 y.s,aZ y.s,hO y.st])
noncomputable def swSB:aG Ob:=fun args h=>match args,h with
 | [.ptr 0 0,.ptr 3 0],[some (.abs (.sweep t n x) [1]),e1,e2,e3,e4]=>(match lL 2 [e1,e2],cU 4 [e3,e4]with
   | some (l2,t2,n2,st),some (l,s)=>some (.pre ((l=s.xs.length∧l2=st.R.length∧t2=t∧n2=n)∧sH t n x st s) (SO.finB t n (swF t n x st s)))
   | _,_=>none)
 | _,_=>none
theorem aCN:sT' 195 swSB:=by
 intro args h o ho K hK;unfold swSB at ho;split at ho
 case h_2=>cases ho
 split at ho<;>cases ho
 rename_i hs hm;obtain⟨⟨⟨hl,hl2,rfl,rfl⟩,ok⟩,hK⟩:=hK;have hh:=bB hm hl;cases hh;have hh:=cH hs hl2;cases hh;exact jP (fun ι hι=>by simp [aM.ren,aFY,AVal.ren,hι]) (fun ι hι=>by simp [aM.ren,hι]) (fun K hK=>FZ _ _ _ _ _ K ok hK) K hK
noncomputable def swSC:aG Ob:=aG.or swSA swSB
theorem aCL:sT' 195 swSC:=aF6 aCM aCN
def aAV(t n:Int)(v:AVal)(g:aD Ob):Option (Prop×STS):=match v,g with
 | .ptr 2 0,[e1,e2,some (.cells [.ptr 0 0,.bool false,.raw (.pointer none),.raw (.pointer none),.bool false])]=>(match lL 1 [e1,e2]with
   | some (l2,t2,n2,st)=>some (t2=t∧n2=n∧l2=st.R.length,st)
   | none=>none)
 | _,_=>none
abbrev VP(t n:Int)(y:STS):aD Ob:=[stC 1 t n y,hO y,some (.abs (.ensure t n aU) [0])]
theorem VQ{t n:Int} :cE (obI tbl) 2 (aAV t n) (fun y=>.ret (.ptr 2 0) (VP t n y)):=by
 intro v g p x hp hq K hK;unfold aAV at hp;split at hp
 case h_2=>cases hp
 split at hp
 case h_2=>cases hp
 rename_i l2 t2 n2 st hs;simp only [sI',pI']at hp;obtain⟨rfl,rfl⟩:=hp;obtain⟨rfl,rfl,hl2⟩:=hq;have hh:=cH hs hl2;cases hh;exact⟨⟨_,_,aF.pack (VP t2 n2 st) (.ensure t2 n2 aU) 2 1 (JD t2 n2 aU) [0] (by kernel_rfl) rfl rfl (by kernel_rfl),hK⟩⟩
def C7(t n:Int)(st:STS):Tr STS:=.pre (t=t∧n=n∧lE' st.3) (.ret {me:=st.1,sp:=st.2,R:=st.3})
def enNS:aG Ob:=fun args h=>match args,h with
 | [.ptr 0 0],[e1,e2]=>(match lL 1 [e1,e2]with
   | some (l2,t,n,st)=>some (.pre (l2=st.R.length∧(C7 t n st).ok) (.ret (.ptr 2 0) (VP t n (C7 t n st).val)))
   | none=>none)
 | _,_=>none
theorem G8:sT' 37 enNS:=by
 intro args h o ho K hK;unfold enNS at ho;split at ho
 case h_2=>cases ho
 split at ho<;>cases ho
 rename_i l2 t n st hs;obtain⟨⟨hl2,ok⟩,hK⟩:=hK;have hh:=cH hs hl2;cases hh;refine aF0 (root:=2) (pos:=[]) (cs:=[]) (parse:=aAV t n) VQ ?_;exact cM' (E:=EB2) (q:=(C7 t n st).run (fun y=>(Out.ret (.ptr 2 0) (VP t n y)).run K)) (by kernel_rfl) (aFW ok hK)
def aCH(t n:Int)(v:AVal)(g:aD Ob):Option (Prop×STS):=match v,g with
 | .ptr 2 0,[e1,e2,some (.cells [.ptr 0 0,.raw (.pointer none)])]=>(match lL 1 [e1,e2]with
   | some (l2,t2,n2,st)=>some (t2=t∧n2=n∧l2=st.R.length,st)
   | none=>none)
 | _,_=>none
abbrev YF(t n:Int)(y:STS):aD Ob:=[stC 1 t n y,hO y,some (.abs (.sweep t n bN) [0])]
theorem YG{t n:Int} :cE (obI tbl) 2 (aCH t n) (fun y=>.ret (.ptr 2 0) (YF t n y)):=by
 intro v g p x hp hq K hK;unfold aCH at hp;split at hp
 case h_2=>cases hp
 split at hp
 case h_2=>cases hp
 rename_i l2 t2 n2 st hs;simp only [sI',pI']at hp;obtain⟨rfl,rfl⟩:=hp;obtain⟨rfl,rfl,hl2⟩:=hq;have hh:=cH hs hl2;cases hh;exact⟨⟨_,_,aF.pack (YF t2 n2 st) (.sweep t2 n2 bN) 2 1 (S9 t2 n2 bN) [0] (by kernel_rfl) rfl rfl (by kernel_rfl),hK⟩⟩
def aCI(t n:Int)(st:STS):Tr STS:=.pre (t=t∧n=n∧lE' st.3) (.ret {me:=st.1,sp:=st.2,R:=st.3})
def swNS:aG Ob:=fun args h=>match args,h with
 | [.ptr 0 0],[e1,e2]=>(match lL 1 [e1,e2]with
   | some (l2,t,n,st)=>some (.pre (l2=st.R.length∧(aCI t n st).ok) (.ret (.ptr 2 0) (YF t n (aCI t n st).val)))
   | none=>none)
 | _,_=>none
theorem aCJ:sT' 146 swNS:=by
 intro args h o ho K hK;unfold swNS at ho;split at ho
 case h_2=>cases ho
 split at ho<;>cases ho
 rename_i l2 t n st hs;obtain⟨⟨hl2,ok⟩,hK⟩:=hK;have hh:=cH hs hl2;cases hh;refine aF0 (root:=2) (pos:=[]) (cs:=[]) (parse:=aCH t n) YG ?_;exact cM' (E:=EB2) (q:=(aCI t n st).run (fun y=>(Out.ret (.ptr 2 0) (YF t n y)).run K)) (by kernel_rfl) (aFW ok hK)
noncomputable def EB3:=(((EB2.addS 85 enS2 aAZ).addS 195 swSC aCL).addS 37 enNS G8).addS 146 swNS aCJ
structure ClO where
 d:Bool
 x:CLS
 s:MS
instance:Inhabited ClO:=⟨⟨false,⟨0,0,0,0⟩,⟨0,0,[],0,0,0,0,0,false⟩⟩⟩
instance:Inhabited CLS:=⟨⟨0,0,0,0⟩⟩
abbrev clH(t n:Int)(x:CLS)(s:MS):aD Ob:=[some (.abs (.clear t n x) []),aY 2 s,aZ s]
abbrev clD(t n:Int)(x:CLS)(s:MS):aD Ob:=[cE' [.I t,.I n,.I x.addr,.I x.at',.int .u64 x.word,.int .u64 x.found],aY 2 s,aZ s]
def ClO.fin(t n:Int)(y:ClO):Out Ob:=.ite y.d (.ret (.bool true) (clD t n y.x y.s)) (.ret (.bool false) (clH t n y.x y.s))
def aAt(t n:Int)(v:AVal)(g:aD Ob):Option (Prop×ClO):=match v,g with
 | .bool d,[some (.cells [.int .i64 t1,.int .i64 n1,.int .i64 addr,.int .i64 at',.int .u64 word,.int .u64 found]),e1,e2]=>(match cU 2 [e1,e2]with
   | some (l,s)=>some ((t1=t∧n1=n)∧l=s.xs.length,⟨d,⟨addr,at',word,found⟩,s⟩)
   | none=>none)
 | _,_=>none
def TU(t n:Int)(v:AVal)(g:aD Ob):Option (Prop×ClO):=aAt t n v g
theorem UN{t n:Int} :cE (obI tbl) 3 (aAt t n) (ClO.fin t n):=by
 intro v g p x hp hq K hK;unfold aAt at hp;split at hp
 case h_2=>cases hp
 rename_i d t1 n1 addr at' word found e1 e2;split at hp
 case h_2=>cases hp
 rename_i l s hm;simp only [sI',pI']at hp;obtain⟨rfl,rfl⟩:=hp;obtain⟨⟨rfl,rfl⟩,hl⟩:=hq;have hh:=bB hm hl;cases hh;refine sJ hK (fun h=>?_) (fun h=>?_)
 ·exact⟨⟨_,_,aF.refl _ _ _,h⟩⟩
 ·exact⟨⟨_,_,(aF.pack (clH t1 n1 (⟨addr,at',word,found⟩:CLS) s) (.clear t1 n1 (⟨addr,at',word,found⟩:CLS)) 0 0 (mL t1 n1 (⟨addr,at',word,found⟩:CLS)) [] (by kernel_rfl) rfl (congrArg (Prod.mk 0) rfl) (by kernel_rfl)),h⟩⟩
theorem AH{t n:Int} :cE (obI tbl) 3 (TU t n) (ClO.fin t n):=by
 intro v g p x hp hq K hK;unfold TU at hp;exact UN v g p x hp hq K hK
def CT(t n:Int)(x:CLS)(s:MS):Tr ClO:=.pre (lE' s.3∧(0:Int)≤s.4∧s.4≤(4611686018427387904:Int)) (.pre True (.ite (ilt (aA (aB s.3 x.1) 20 5 - 1) 0) (.pre ((t=t∧n=n)∧lE' s.3) (.ret {d:=true,x:= {addr:=x.1,at':=1,word:=aB s.3 x.1,found:=x.4},s:= {s with c:=s.4+1,k:=1,a:=x.1,o:=aB s.3 x.1,w:=aB s.3 x.1,ok:=bS s.3 x.1} })) (.pre ((t=t∧n=n)∧lE' s.3) (.ret {d:=ile t (aA (aB s.3 x.1) 20 5 - 1),x:= {addr:=x.1,at':=1,word:=aB s.3 x.1,found:=x.4},s:= {s with c:=s.4+1,k:=1,a:=x.1,o:=aB s.3 x.1,w:=aB s.3 x.1,ok:=bS s.3 x.1} }))))
theorem LE(t n:Int)(x:CLS)(s:MS)(K:ClO→Prop)(h:(CT t n x s).run K):cT' 96 [.ptr 0 0,.ptr 1 0] [cE' [.I t,.I n,.I x.addr,.I 0,.int .u64 x.word,.int .u64 x.found],aY 2 s,aZ s] (cF 3 0 [] [] (TU t n) K):=by
 exact cM' (E:=EB3) (by kernel_rfl) h
abbrev w05(x:CLS):=aA x.3 20 5 - 1
abbrev w04(n:Int)(s:MS)(t:Int)(x:CLS):Tr ClO:=.ret {d:=false,x:= {addr:=x.1,at':=3,word:=x.3,found:=aB s.3 (2*n+5+2*t+3*(w05 x)+2) },s:= {s with c:=s.4+1,k:=1,a:=2*n+5+2*t+3*(w05 x)+2,o:=aB s.3 (2*n+5+2*t+3*(w05 x)+2),w:=aB s.3 (2*n+5+2*t+3*(w05 x)+2),ok:=bS s.3 (2*n+5+2*t+3*(w05 x)+2) } }
abbrev w06(n t:Int)(x:CLS):=(((0:Int)≤t∧t≤(100000:Int))∧((0:Int)≤n∧n≤(100000:Int))∧(-1099511627776:Int)≤aA x.3 20 5 - 1∧aA x.3 20 5 - (1:Int)≤(1099511627776:Int))∧True
def CU(t n:Int)(x:CLS)(s:MS):Tr ClO:=.pre True (.pre (w06 n t x) (.pre ((lE' s.3∧(0:Int)≤s.4∧s.4≤(4611686018427387904:Int))∧True) (.pre True (.ite (hasB [2] (aA (aB s.3 (2*n+5+2*t+3*(w05 x)+2)) 49 3)) (.ite (ieq (aA (aB s.3 (2*n+5+2*t+3*(w05 x)+2)) 12 9) x.1) (.pre True (.ite (ieq (aA (aB s.3 (2*n+5+2*t+3*(w05 x)+2)) 21 18) (aA x.3 25 18)) (.pre ((t=t∧n=n)∧lE' s.3) (.ret {d:=false,x:= {addr:=x.1,at':=2,word:=x.3,found:=aB s.3 (2*n+5+2*t+3*(w05 x)+2) },s:= {s with c:=s.4+1,k:=1,a:=2*n+5+2*t+3*(w05 x)+2,o:=aB s.3 (2*n+5+2*t+3*(w05 x)+2),w:=aB s.3 (2*n+5+2*t+3*(w05 x)+2),ok:=bS s.3 (2*n+5+2*t+3*(w05 x)+2) } })) (.pre ((t=t∧n=n)∧lE' s.3) (w04 n s t x)))) (.pre ((t=t∧n=n)∧lE' s.3) (w04 n s t x))) (.pre ((t=t∧n=n)∧lE' s.3) (w04 n s t x))))))
theorem LF(t n:Int)(x:CLS)(s:MS)(K:ClO→Prop)(h:(CU t n x s).run K):cT' 96 [.ptr 0 0,.ptr 1 0] [cE' [.I t,.I n,.I x.addr,.I 1,.int .u64 x.word,.int .u64 x.found],aY 2 s,aZ s] (cF 3 0 [] [] (TU t n) K):=by
 exact cM' (E:=EB3) (by kernel_rfl) h
def CV(t n:Int)(x:CLS)(s:MS):Tr ClO:=.pre True (.pre True (.pre True (.pre True (.pre (w06 n t x) (.pre ((lE' s.3∧(0:Int)≤s.4∧s.4≤(4611686018427387904:Int))∧True) (.pre ((t=t∧n=n)∧lE' (bif aT s.3 (2*n+5+2*t+3*(w05 x)+2) x.4 then aS s.3 (2*n+5+2*t+3*(w05 x)+2) (bif dOk (aA x.4 0 12) (aA x.4 12 9) (aA x.4 21 18) (aA x.4 39 9) 3 (aA x.4 52 10)then cT (aA x.4 0 12) (aA x.4 12 9) (aA x.4 21 18) (aA x.4 39 9) (ieq (aA x.4 48 1) 1) 3 (aA x.4 52 10)else 0)else s.3)) (.ret {d:=false,x:= {x with at':=3},s:= {t:=s.1,n:=s.2,xs:=bif aT s.3 (2*n+5+2*t+3*(w05 x)+2) x.4 then aS s.3 (2*n+5+2*t+3*(w05 x)+2) (bif dOk (aA x.4 0 12) (aA x.4 12 9) (aA x.4 21 18) (aA x.4 39 9) 3 (aA x.4 52 10)then cT (aA x.4 0 12) (aA x.4 12 9) (aA x.4 21 18) (aA x.4 39 9) (ieq (aA x.4 48 1) 1) 3 (aA x.4 52 10)else 0)else s.3,c:=s.4+1,k:=3,a:=2*n+5+2*t+3*(w05 x)+2,o:=aB s.3 (2*n+5+2*t+3*(w05 x)+2),w:=bif bS s.3 (2*n+5+2*t+3*(w05 x)+2)then bif dOk (aA x.4 0 12) (aA x.4 12 9) (aA x.4 21 18) (aA x.4 39 9) 3 (aA x.4 52 10)then cT (aA x.4 0 12) (aA x.4 12 9) (aA x.4 21 18) (aA x.4 39 9) (ieq (aA x.4 48 1) 1) 3 (aA x.4 52 10)else 0 else 0,ok:=aT s.3 (2*n+5+2*t+3*(w05 x)+2) x.4} })))))))
theorem LG(t n:Int)(x:CLS)(s:MS)(K:ClO→Prop)(h:(CV t n x s).run K):cT' 96 [.ptr 0 0,.ptr 1 0] [cE' [.I t,.I n,.I x.addr,.I 2,.int .u64 x.word,.int .u64 x.found],aY 2 s,aZ s] (cF 3 0 [] [] (TU t n) K):=by
 exact cM' (E:=EB3) (by kernel_rfl) h
abbrev w07(x:CLS):=aR (aA x.3 25 18)
def CW(t n:Int)(x:CLS)(s:MS):Tr ClO:=.pre True (.pre ((0:Int)≤aA x.3 25 18∧aA x.3 25 (18:Int)≤(1000000:Int)) (.pre True (.pre ((lE' s.3∧(0:Int)≤s.4∧s.4≤(4611686018427387904:Int))∧True) (.pre ((t=t∧n=n)∧lE' (bif aT s.3 x.1 x.3 then aS s.3 x.1 (bif bif aH (aA x.3 0 10) 10 then bif aH (aA x.3 10 9) 9 then bif aH 0 5 then aH (w07 x) 18 else false else false else false then bY (aA x.3 0 10) (aA x.3 10 9) (ieq (aA x.3 19 1) 1) 0 (w07 x)else 0)else s.3)) (.ret {d:=true,x:= {x with at':=3},s:= {t:=s.1,n:=s.2,xs:=bif aT s.3 x.1 x.3 then aS s.3 x.1 (bif bif aH (aA x.3 0 10) 10 then bif aH (aA x.3 10 9) 9 then bif aH 0 5 then aH (w07 x) 18 else false else false else false then bY (aA x.3 0 10) (aA x.3 10 9) (ieq (aA x.3 19 1) 1) 0 (w07 x)else 0)else s.3,c:=s.4+1,k:=3,a:=x.1,o:=aB s.3 x.1,w:=bif bS s.3 x.1 then bif bif aH (aA x.3 0 10) 10 then bif aH (aA x.3 10 9) 9 then bif aH 0 5 then aH (w07 x) 18 else false else false else false then bY (aA x.3 0 10) (aA x.3 10 9) (ieq (aA x.3 19 1) 1) 0 (w07 x)else 0 else 0,ok:=aT s.3 x.1 x.3} })))))
theorem LH(t n:Int)(x:CLS)(s:MS)(K:ClO→Prop)(h:(CW t n x s).run K):cT' 96 [.ptr 0 0,.ptr 1 0] [cE' [.I t,.I n,.I x.addr,.I 3,.int .u64 x.word,.int .u64 x.found],aY 2 s,aZ s] (cF 3 0 [] [] (TU t n) K):=by
 exact cM' (E:=EB3) (by kernel_rfl) h
def clT(t n:Int)(x:CLS)(s:MS):Tr ClO:=
 bif ieq x.at' 0 then CT t n x s else
 bif ieq x.at' 1 then CU t n x s else
 bif ieq x.at' 2 then CV t n x s else
 bif ieq x.at' 3 then CW t n x s else .pre False (.ret default)
def dP(t n:Int)(x:CLS)(s:MS):ClO:=(clT t n x s).val
def PQ(t n:Int)(x:CLS)(s:MS):Prop:=(clT t n x s).ok
theorem UO(t n:Int)(x:CLS)(s:MS)(K:AVal→aD Ob→Prop)(h:(clT t n x s).run (fun y=>(ClO.fin t n y).run K)):cT' 96 [.ptr 0 0,.ptr 1 0] (clH t n x s) K:=by
 unfold clT at h
 by_cases e:x.at'=0
 ·rw [e]at h;have h:(CT t n x s).run _:=h;refine aFR (root:=0) (pos:=[]) (cs:=[]) (parse:=TU t n) (fin:=ClO.fin t n) AH (bF.unpack (.clear t n x) 0 0 (mL t n x) [] rfl (congrArg (Prod.mk 0) rfl) (by kernel_rfl) rfl) ?_
  have q:=LE t n x s _ h;rw [←e]at q;exact q
 rw [b8 e]at h
 by_cases e:x.at'=1
 ·rw [e]at h;have h:(CU t n x s).run _:=h;refine aFR (root:=0) (pos:=[]) (cs:=[]) (parse:=TU t n) (fin:=ClO.fin t n) AH (bF.unpack (.clear t n x) 0 0 (mL t n x) [] rfl (congrArg (Prod.mk 0) rfl) (by kernel_rfl) rfl) ?_
  have q:=LF t n x s _ h;rw [←e]at q;exact q
 rw [b8 e]at h
 by_cases e:x.at'=2
 ·rw [e]at h;have h:(CV t n x s).run _:=h;refine aFR (root:=0) (pos:=[]) (cs:=[]) (parse:=TU t n) (fin:=ClO.fin t n) AH (bF.unpack (.clear t n x) 0 0 (mL t n x) [] rfl (congrArg (Prod.mk 0) rfl) (by kernel_rfl) rfl) ?_
  have q:=LG t n x s _ h;rw [←e]at q;exact q
 rw [b8 e]at h
 by_cases e:x.at'=3
 ·rw [e]at h;have h:(CW t n x s).run _:=h;refine aFR (root:=0) (pos:=[]) (cs:=[]) (parse:=TU t n) (fin:=ClO.fin t n) AH (bF.unpack (.clear t n x) 0 0 (mL t n x) [] rfl (congrArg (Prod.mk 0) rfl) (by kernel_rfl) rfl) ?_
  have q:=LH t n x s _ h;rw [←e]at q;exact q
 rw [b8 e]at h;exact h.1.elim
noncomputable def clS:aG Ob:=fun args h=>match args,h with
 | [.ptr 0 0,.ptr 1 0],[some (.abs (.clear t n x) []),e1,e2]=>(match cU 2 [e1,e2]with
   | some (l,s)=>some (.pre (l=s.xs.length∧PQ t n x s) (ClO.fin t n (dP t n x s)))
   | none=>none)
 | _,_=>none
theorem aDn:sT' 96 clS:=by
 intro args h o ho K hK;unfold clS at ho;split at ho
 case h_2=>cases ho
 split at ho<;>cases ho
 rename_i hm;obtain⟨⟨hl,ok⟩,hK⟩:=hK;have hh:=bB hm hl;cases hh;exact UO _ _ _ _ K (aFW ok hK)
def aAq(t n:Int)(v:AVal)(g:aD Ob):Option (Prop×CLS):=match v,g with
 | .ptr 0 0,[some (.cells [.int .i64 t1,.int .i64 n1,.int .i64 addr,.int .i64 at',.int .u64 word,.int .u64 found])]=>some ((t1=t∧n1=n),(⟨addr,at',word,found⟩:CLS))
 | _,_=>none
abbrev UK(t n:Int)(y:CLS):aD Ob:=[some (.abs (.clear t n y) [])]
theorem UL{t n:Int} :cE (obI tbl) 0 (aAq t n) (fun y=>.ret (.ptr 0 0) (UK t n y)):=by
 intro v g p x hp hq K hK;unfold aAq at hp;split at hp
 case h_2=>cases hp
 rename_i t1 n1 addr at' word found;simp only [sI',pI']at hp;obtain⟨rfl,rfl⟩:=hp;obtain⟨rfl,rfl⟩:=hq;exact⟨⟨_,_,aF.pack (UK t1 n1 (⟨addr,at',word,found⟩:CLS)) (.clear t1 n1 (⟨addr,at',word,found⟩:CLS)) 0 0 (mL t1 n1 (⟨addr,at',word,found⟩:CLS)) [] (by kernel_rfl) rfl (congrArg (Prod.mk 0) rfl) (by kernel_rfl),hK⟩⟩
def aAr(t n:Int)(a:Int):Tr CLS:=.pre (t=t∧n=n) (.ret {addr:=a,at':=0,word:=0,found:=0})
def AG(t n:Int)(a:Int):CLS:=(aAr t n a).val
def qU(t n:Int)(a:Int):Prop:=(aAr t n a).ok
def clNS:aG Ob:=fun args h=>match args,h with
 | [.agg [.int .i64 t,.int .i64 n],.int .i64 a],[]=>some (.pre (qU t n a) (.ret (.ptr 0 0) (UK t n (AG t n a))))
 | _,_=>none
theorem aAs:sT' 159 clNS:=by
 intro args h o ho K hK;unfold clNS at ho;split at ho<;>cases ho
 rename_i t n a;obtain⟨ok,hK⟩:=hK;refine aF0 (root:=0) (pos:=[]) (cs:=[]) (parse:=aAq t n) UL ?_;exact cM' (E:=EB3) (q:=(aAr t n a).run (fun y=>(Out.ret (.ptr 0 0) (UK t n y)).run K)) (by kernel_rfl) (aFW ok hK)
noncomputable def EC1:=((EB3.addS 96 clS aDn).addS 159 clNS aAs)
def cmpI(a b:Int):Int:=bif ilt a b then -1 else bif ilt b a then 1 else 0
def orI(a b:Int):Int:=bif ieq a 0 then b else a
def FM(u n v m:Int):Int:=orI (cmpI n m) (cmpI u v)
def PS:bO Ob:=fun args h=>match args,h with
 | [.int .i64 a,.int .i64 b],[]=>some (True,.I (cmpI a b))
 | _,_=>none
theorem UP:sT' 231 PS.spec:=by
 intro args h o ho K hK;unfold bO.spec PS at ho;split at ho
 case h_2=>cases ho
 rename_i p v hp;split at hp
 case h_2=>cases hp
 rename_i a b;simp only [sI',pI']at hp;obtain⟨rfl,rfl⟩:=hp;simp only [sI']at ho;subst ho;obtain⟨hp,hK⟩:=hK;have hK:K (.I (cmpI a b)) []:=hK;refine aFQ (cM' (E:=EC1) (q:=bif !ieq a a then bif !ieq b b then K (.I 0) []else K (.I (-1:Int)) []else bif !ieq b b then K (.I 1) []else bif ilt a b then K (.I (-1:Int)) []else bif ilt b a then K (.I 1) []else K (.I 0) []) (by kernel_rfl) ?_)
 unfold cmpI at hK;rw [bE,bE];cases h:ilt a b with
 | true=>rw [h]at hK;exact hK
 | false=>cases h2:ilt b a<;>(rw [h,h2]at hK;exact hK)
def PU:bO Ob:=fun args h=>match args,h with
 | [.int .u64 a,.int .u64 b],[]=>some (True,.I (cmpI a b))
 | _,_=>none
theorem UR:sT' 230 PU.spec:=by
 intro args h o ho K hK;unfold bO.spec PU at ho;split at ho
 case h_2=>cases ho
 rename_i p v hp;split at hp
 case h_2=>cases hp
 rename_i a b;simp only [sI',pI']at hp;obtain⟨rfl,rfl⟩:=hp;simp only [sI']at ho;subst ho;obtain⟨hp,hK⟩:=hK;have hK:K (.I (cmpI a b)) []:=hK;refine aFQ (cM' (E:=EC1) (q:=bif !ieq a a then bif !ieq b b then K (.I 0) []else K (.I (-1:Int)) []else bif !ieq b b then K (.I 1) []else bif ilt a b then K (.I (-1:Int)) []else bif ilt b a then K (.I 1) []else K (.I 0) []) (by kernel_rfl) ?_)
 unfold cmpI at hK;rw [bE,bE];cases h:ilt a b with
 | true=>rw [h]at hK;exact hK
 | false=>cases h2:ilt b a<;>(rw [h,h2]at hK;exact hK)
def PT:bO Ob:=fun args h=>match args,h with
 | [.slice 0 0 2 1],[some (.cells [.int .i64 a,.int .i64 b])]=>some (True,.I (orI a b))
 | _,_=>none
theorem UQ:sT' 229 PT.spec:=by
 intro args h o ho K hK;unfold bO.spec PT at ho;split at ho
 case h_2=>cases ho
 rename_i p v hp;split at hp
 case h_2=>cases hp
 rename_i a b;simp only [sI',pI']at hp;obtain⟨rfl,rfl⟩:=hp;simp only [sI']at ho;subst ho;obtain⟨hp,hK⟩:=hK;have hK:K (.I (orI a b)) [cE' [.I a,.I b]]:=hK;refine aFQ (cM' (E:=EC1) (q:=((0:Int)≤(0:Int)∧(0:Int)<(↑2:Int))∧bif !ieq a 0 then K (.I a) [cE' [.I a,.I b]]else((0:Int)≤W (0+1)∧W (0+1)<(↑2:Int))∧bif !ieq b 0 then K (.I b) [cE' [.I a,.I b]]else K (.I 0) [cE' [.I a,.I b]]) (by kernel_rfl) ?_)
 unfold orI at hK;have e1:W (0+1)=1:=by decide
 simp only [W]at e1;simp only [W,e1];refine⟨by omega,?_⟩
 cases h:ieq a 0 with
 | false=>rw [h]at hK;exact hK
 | true=>
   rw [h]at hK;refine⟨by omega,?_⟩
   cases h2:ieq b 0 with
   | false=>exact hK
   | true=>
     have:b=0:=by rw [bI]at h2;simpa using h2
     subst this;exact hK
noncomputable def EQ1:=((EC1.addR 231 PS UP).addR 230 PU UR).addR 229 PT UQ
def SN:bO Ob:=fun args h=>match args,h with
 | [.agg [.int .i64 u,.int .u64 n],.agg [.int .i64 v,.int .u64 m]],[]=>some (True,.I (FM u n v m))
 | _,_=>none
theorem X0:sT' 226 SN.spec:=by
 intro args h o ho K hK;unfold bO.spec SN at ho;split at ho
 case h_2=>cases ho
 rename_i p v hp;split at hp
 case h_2=>cases hp
 rename_i u n v m;simp only [sI',pI']at hp;obtain⟨rfl,rfl⟩:=hp;simp only [sI']at ho;subst ho;obtain⟨hp,hK⟩:=hK;have hK:K (.I (FM u n v m)) []:=hK;refine aFQ (cM' (E:=EQ1) (q:=True∧True∧True∧K (.I (orI (cmpI n m) (cmpI u v))) []) (by kernel_rfl) ?_)
 exact⟨trivial,trivial,trivial,hK⟩
noncomputable def EQ2:=EQ1.addR 226 SN X0
def BL(u n v m:Int):Bool:=!ile 0 (FM u n v m)
def IC:bO Ob:=fun args h=>match args,h with
 | [.slice 0 0 2 2],[some (.cells [.int .i64 u,.int .u64 n,.int .i64 v,.int .u64 m])]=>some (True,.bool (BL u n v m))
 | _,_=>none
theorem SP:sT' 218 IC.spec:=by
 intro args h o ho K hK;unfold bO.spec IC at ho;split at ho
 case h_2=>cases ho
 rename_i p v hp;split at hp
 case h_2=>cases hp
 rename_i u n v m;simp only [sI',pI']at hp;obtain⟨rfl,rfl⟩:=hp;simp only [sI']at ho;subst ho;obtain⟨hp,hK⟩:=hK;have hK:K (.bool (BL u n v m)) [cE' [.I u,.int .u64 n,.I v,.int .u64 m]]:=hK;refine aFQ (cM' (E:=EQ2) (q:=((0:Int)≤W (1 - 1)∧W (1 - 1)<(↑2:Int))∧((0:Int)≤(1:Int)∧(1:Int)<(↑2:Int))∧True∧bif ile 0 (FM u n v m)then K (.bool false) [cE' [.I u,.int .u64 n,.I v,.int .u64 m]]else K (.bool true) [cE' [.I u,.int .u64 n,.I v,.int .u64 m]]) (by kernel_rfl) ?_)
 have e1:W (1 - 1)=0:=by decide
 simp only [W]at e1;simp only [W,e1];refine⟨by omega,by omega,trivial,?_⟩
 unfold BL at hK;cases h:ile 0 (FM u n v m)<;>(rw [h]at hK;exact hK)
noncomputable def EQ:=EQ2.addR 218 IC SP
structure HdO where
 d:Bool
 x:HDS
 s:MS
instance:Inhabited HdO:=⟨⟨false,⟨0,0,0,false⟩,⟨0,0,[],0,0,0,0,0,false⟩⟩⟩
instance:Inhabited HDS:=⟨⟨0,0,0,false⟩⟩
abbrev hdH(t n:Int)(x:HDS)(s:MS):aD Ob:=[some (.abs (.head t n x) []),aY 2 s,aZ s]
abbrev hdD(t n:Int)(x:HDS)(s:MS):aD Ob:=[cE' [.I t,.I n,.I x.u,.int .u64 x.no,.I x.at',.bool x.tk],aY 2 s,aZ s]
def HdO.fin(t n:Int)(y:HdO):Out Ob:=.ite y.d (.ret (.bool true) (hdD t n y.x y.s)) (.ret (.bool false) (hdH t n y.x y.s))
def aBD(t n:Int)(v:AVal)(g:aD Ob):Option (Prop×HdO):=match v,g with
 | .bool d,[some (.cells [.int .i64 t1,.int .i64 n1,.int .i64 u,.int .u64 no,.int .i64 at',.bool tk]),e1,e2]=>(match cU 2 [e1,e2]with
   | some (l,s)=>some ((t1=t∧n1=n)∧l=s.xs.length,⟨d,⟨u,no,at',tk⟩,s⟩)
   | none=>none)
 | _,_=>none
def hdP(t n:Int)(v:AVal)(g:aD Ob):Option (Prop×HdO):=aBD t n v g
theorem W4{t n:Int} :cE (obI tbl) 3 (aBD t n) (HdO.fin t n):=by
 intro v g p x hp hq K hK;unfold aBD at hp;split at hp
 case h_2=>cases hp
 rename_i d t1 n1 u no at' tk e1 e2;split at hp
 case h_2=>cases hp
 rename_i l s hm;simp only [sI',pI']at hp;obtain⟨rfl,rfl⟩:=hp;obtain⟨⟨rfl,rfl⟩,hl⟩:=hq;have hh:=bB hm hl;cases hh;refine sJ hK (fun h=>?_) (fun h=>?_)
 ·exact⟨⟨_,_,aF.refl _ _ _,h⟩⟩
 ·exact⟨⟨_,_,(aF.pack (hdH t1 n1 (⟨u,no,at',tk⟩:HDS) s) (.head t1 n1 (⟨u,no,at',tk⟩:HDS)) 0 0 (A6 t1 n1 (⟨u,no,at',tk⟩:HDS)) [] (by kernel_rfl) rfl (congrArg (Prod.mk 0) rfl) (by kernel_rfl)),h⟩⟩
theorem aBE{t n:Int} :cE (obI tbl) 3 (hdP t n) (HdO.fin t n):=by
 intro v g p x hp hq K hK;unfold hdP at hp;exact W4 v g p x hp hq K hK
abbrev w08(n:Int)(s:MS)(t:Int)(x:HDS):Tr HdO:=.ret {d:=ile t (W (x.3+1)),x:= {u:=x.3,no:=aB s.3 (2*n+5+2*t+3*x.3),at':=W (x.3+1),tk:=false},s:= {s with c:=s.4+1,k:=1,a:=2*n+5+2*t+3*x.3,o:=aB s.3 (2*n+5+2*t+3*x.3),w:=aB s.3 (2*n+5+2*t+3*x.3),ok:=bS s.3 (2*n+5+2*t+3*x.3) } }
abbrev w09(n t:Int)(x:HDS):=(((0:Int)≤t∧t≤(100000:Int))∧((0:Int)≤n∧n≤(100000:Int))∧(-1099511627776:Int)≤x.3∧x.3≤(1099511627776:Int))∧True
def Q4(t n:Int)(x:HDS)(s:MS):Tr HdO:=.ite (!x.4) (.pre (w09 n t x) (.pre ((lE' s.3∧(0:Int)≤s.4∧s.4≤(4611686018427387904:Int))∧True) (.pre True (.pre True (.ite (!kE (aA (aB s.3 (2*n+5+2*t+3*x.3+2)) 49 3)) (.pre ((t=t∧n=n)∧lE' s.3) (.ret {d:=ile t (W (x.3+1)),x:= {u:=x.1,no:=x.2,at':=W (x.3+1),tk:=false},s:= {s with c:=s.4+1,k:=1,a:=2*n+5+2*t+3*x.3+2,o:=aB s.3 (2*n+5+2*t+3*x.3+2),w:=aB s.3 (2*n+5+2*t+3*x.3+2),ok:=bS s.3 (2*n+5+2*t+3*x.3+2) } })) (.pre ((t=t∧n=n)∧lE' s.3) (.ret {d:=false,x:= {x with tk:=kE (aA (aB s.3 (2*n+5+2*t+3*x.3+2)) 49 3) },s:= {s with c:=s.4+1,k:=1,a:=2*n+5+2*t+3*x.3+2,o:=aB s.3 (2*n+5+2*t+3*x.3+2),w:=aB s.3 (2*n+5+2*t+3*x.3+2),ok:=bS s.3 (2*n+5+2*t+3*x.3+2) } }))))))) (.pre (w09 n t x) (.pre ((lE' s.3∧(0:Int)≤s.4∧s.4≤(4611686018427387904:Int))∧True) (.ite (ilt x.1 0) (.pre ((t=t∧n=n)∧lE' s.3) (w08 n s t x)) (.pre True (.ite (BL x.3 (aB s.3 (2*n+5+2*t+3*x.3)) x.1 x.2) (.pre ((t=t∧n=n)∧lE' s.3) (w08 n s t x)) (.pre ((t=t∧n=n)∧lE' s.3) (.ret {d:=ile t (W (x.3+1)),x:= {u:=x.1,no:=x.2,at':=W (x.3+1),tk:=false},s:= {s with c:=s.4+1,k:=1,a:=2*n+5+2*t+3*x.3,o:=aB s.3 (2*n+5+2*t+3*x.3),w:=aB s.3 (2*n+5+2*t+3*x.3),ok:=bS s.3 (2*n+5+2*t+3*x.3) } })))))))
theorem Q5(t n:Int)(x:HDS)(s:MS)(K:HdO→Prop)(h:(Q4 t n x s).run K):cT' 185 [.ptr 0 0,.ptr 1 0] [cE' [.I t,.I n,.I x.u,.int .u64 x.no,.I x.at',.bool x.tk],aY 2 s,aZ s] (cF 3 0 [] [] (hdP t n) K):=by
 exact cM' (E:=EQ) (by kernel_rfl) h
def hdT(t n:Int)(x:HDS)(s:MS):Tr HdO:=Q4 t n x s
def hdF(t n:Int)(x:HDS)(s:MS):HdO:=(hdT t n x s).val
def aBC(t n:Int)(x:HDS)(s:MS):Prop:=(hdT t n x s).ok
theorem W5(t n:Int)(x:HDS)(s:MS)(K:AVal→aD Ob→Prop)(h:(hdT t n x s).run (fun y=>(HdO.fin t n y).run K)):cT' 185 [.ptr 0 0,.ptr 1 0] (hdH t n x s) K:=by
 unfold hdT at h;exact aFR (root:=0) (pos:=[]) (cs:=[]) (parse:=hdP t n) (fin:=HdO.fin t n) aBE (bF.unpack (.head t n x) 0 0 (A6 t n x) [] rfl (congrArg (Prod.mk 0) rfl) (by kernel_rfl) rfl) (Q5 t n x s _ h)
noncomputable def hdS:aG Ob:=fun args h=>match args,h with
 | [.ptr 0 0,.ptr 1 0],[some (.abs (.head t n x) []),e1,e2]=>(match cU 2 [e1,e2]with
   | some (l,s)=>some (.pre (l=s.xs.length∧aBC t n x s) (HdO.fin t n (hdF t n x s)))
   | none=>none)
 | _,_=>none
theorem aDZ:sT' 185 hdS:=by
 intro args h o ho K hK;unfold hdS at ho;split at ho
 case h_2=>cases ho
 split at ho<;>cases ho
 rename_i hm;obtain⟨⟨hl,ok⟩,hK⟩:=hK;have hh:=bB hm hl;cases hh;exact W5 _ _ _ _ K (aFW ok hK)
def aBz(t n:Int)(v:AVal)(g:aD Ob):Option (Prop×HDS):=match v,g with
 | .ptr 0 0,[some (.cells [.int .i64 t1,.int .i64 n1,.int .i64 u,.int .u64 no,.int .i64 at',.bool tk])]=>some ((t1=t∧n1=n),(⟨u,no,at',tk⟩:HDS))
 | _,_=>none
abbrev W1(t n:Int)(y:HDS):aD Ob:=[some (.abs (.head t n y) [])]
theorem W2{t n:Int} :cE (obI tbl) 0 (aBz t n) (fun y=>.ret (.ptr 0 0) (W1 t n y)):=by
 intro v g p x hp hq K hK;unfold aBz at hp;split at hp
 case h_2=>cases hp
 rename_i t1 n1 u no at' tk;simp only [sI',pI']at hp;obtain⟨rfl,rfl⟩:=hp;obtain⟨rfl,rfl⟩:=hq;exact⟨⟨_,_,aF.pack (W1 t1 n1 (⟨u,no,at',tk⟩:HDS)) (.head t1 n1 (⟨u,no,at',tk⟩:HDS)) 0 0 (A6 t1 n1 (⟨u,no,at',tk⟩:HDS)) [] (by kernel_rfl) rfl (congrArg (Prod.mk 0) rfl) (by kernel_rfl),hK⟩⟩
def aBA(t n:Int):Tr HDS:=.pre (t=t∧n=n) (.ret {u:= -1,no:=0,at':=0,tk:=false})
def WZ(t n:Int):HDS:=(aBA t n).val
def Q3(t n:Int):Prop:=(aBA t n).ok
def hdNS:aG Ob:=fun args h=>match args,h with
 | [.agg [.int .i64 t,.int .i64 n]],[]=>some (.pre (Q3 t n) (.ret (.ptr 0 0) (W1 t n (WZ t n))))
 | _,_=>none
theorem aBB:sT' 119 hdNS:=by
 intro args h o ho K hK;unfold hdNS at ho;split at ho<;>cases ho
 rename_i t n;obtain⟨ok,hK⟩:=hK;refine aF0 (root:=0) (pos:=[]) (cs:=[]) (parse:=aBz t n) W2 ?_;exact cM' (E:=EQ) (q:=(aBA t n).run (fun y=>(Out.ret (.ptr 0 0) (W1 t n y)).run K)) (by kernel_rfl) (aFW ok hK)
noncomputable def EC2:=((EQ.addS 185 hdS aDZ).addS 119 hdNS aBB)
structure DrO where
 d:Bool
 x:DRS
 s:MS
instance:Inhabited DrO:=⟨⟨false,⟨0,0⟩,⟨0,0,[],0,0,0,0,0,false⟩⟩⟩
instance:Inhabited DRS:=⟨⟨0,0⟩⟩
abbrev drH(t n:Int)(x:DRS)(s:MS):aD Ob:=[some (.abs (.drop t n x) []),aY 2 s,aZ s]
abbrev drD(t n:Int)(x:DRS)(s:MS):aD Ob:=[cE' [.I t,.I n,.I x.th,.I x.at'],aY 2 s,aZ s]
def DrO.fin(t n:Int)(y:DrO):Out Ob:=.ite y.d (.ret (.bool true) (drD t n y.x y.s)) (.ret (.bool false) (drH t n y.x y.s))
def aAQ(t n:Int)(v:AVal)(g:aD Ob):Option (Prop×DrO):=match v,g with
 | .bool d,[some (.cells [.int .i64 t1,.int .i64 n1,.int .i64 th,.int .i64 at']),e1,e2]=>(match cU 2 [e1,e2]with
   | some (l,s)=>some ((t1=t∧n1=n)∧l=s.xs.length,⟨d,⟨th,at'⟩,s⟩)
   | none=>none)
 | _,_=>none
def drP(t n:Int)(v:AVal)(g:aD Ob):Option (Prop×DrO):=aAQ t n v g
theorem VI{t n:Int} :cE (obI tbl) 3 (aAQ t n) (DrO.fin t n):=by
 intro v g p x hp hq K hK;unfold aAQ at hp;split at hp
 case h_2=>cases hp
 rename_i d t1 n1 th at' e1 e2;split at hp
 case h_2=>cases hp
 rename_i l s hm;simp only [sI',pI']at hp;obtain⟨rfl,rfl⟩:=hp;obtain⟨⟨rfl,rfl⟩,hl⟩:=hq;have hh:=bB hm hl;cases hh;refine sJ hK (fun h=>?_) (fun h=>?_)
 ·exact⟨⟨_,_,aF.refl _ _ _,h⟩⟩
 ·exact⟨⟨_,_,(aF.pack (drH t1 n1 (⟨th,at'⟩:DRS) s) (.drop t1 n1 (⟨th,at'⟩:DRS)) 0 0 (AR t1 n1 (⟨th,at'⟩:DRS)) [] (by kernel_rfl) rfl (congrArg (Prod.mk 0) rfl) (by kernel_rfl)),h⟩⟩
theorem aAR{t n:Int} :cE (obI tbl) 3 (drP t n) (DrO.fin t n):=by
 intro v g p x hp hq K hK;unfold drP at hp;exact VI v g p x hp hq K hK
def LY(t n:Int)(x:DRS)(s:MS):Tr DrO:=.pre ((((0:Int)≤t∧t≤(100000:Int))∧((0:Int)≤n∧n≤(100000:Int))∧((-1099511627776:Int)≤x.1∧x.1≤(1099511627776:Int))∧(-1099511627776:Int)≤x.2∧x.2≤(1099511627776:Int))∧True) (.pre ((lE' s.3∧(0:Int)≤s.4∧s.4≤(4611686018427387904:Int))∧True) (.pre ((t=t∧n=n)∧lE' (aS s.3 (2*n+5+2*x.1+x.2) 0)) (.ret {d:=ile 2 (W (x.2+1)),x:= {th:=x.1,at':=W (x.2+1) },s:= {t:=s.1,n:=s.2,xs:=aS s.3 (2*n+5+2*x.1+x.2) 0,c:=s.4+1,k:=2,a:=2*n+5+2*x.1+x.2,o:=aB s.3 (2*n+5+2*x.1+x.2),w:=bif bS s.3 (2*n+5+2*x.1+x.2)then 0 else 0,ok:=bS s.3 (2*n+5+2*x.1+x.2) } })))
theorem P8(t n:Int)(x:DRS)(s:MS)(K:DrO→Prop)(h:(LY t n x s).run K):cT' 193 [.ptr 0 0,.ptr 1 0] [cE' [.I t,.I n,.I x.th,.I x.at'],aY 2 s,aZ s] (cF 3 0 [] [] (drP t n) K):=by
 exact cM' (E:=EC2) (by kernel_rfl) h
def Y7(t n:Int)(x:DRS)(s:MS):Tr DrO:=LY t n x s
def drF(t n:Int)(x:DRS)(s:MS):DrO:=(Y7 t n x s).val
def aAP(t n:Int)(x:DRS)(s:MS):Prop:=(Y7 t n x s).ok
theorem VJ(t n:Int)(x:DRS)(s:MS)(K:AVal→aD Ob→Prop)(h:(Y7 t n x s).run (fun y=>(DrO.fin t n y).run K)):cT' 193 [.ptr 0 0,.ptr 1 0] (drH t n x s) K:=by
 unfold Y7 at h;exact aFR (root:=0) (pos:=[]) (cs:=[]) (parse:=drP t n) (fin:=DrO.fin t n) aAR (bF.unpack (.drop t n x) 0 0 (AR t n x) [] rfl (congrArg (Prod.mk 0) rfl) (by kernel_rfl) rfl) (P8 t n x s _ h)
noncomputable def drS:aG Ob:=fun args h=>match args,h with
 | [.ptr 0 0,.ptr 1 0],[some (.abs (.drop t n x) []),e1,e2]=>(match cU 2 [e1,e2]with
   | some (l,s)=>some (.pre (l=s.xs.length∧aAP t n x s) (DrO.fin t n (drF t n x s)))
   | none=>none)
 | _,_=>none
theorem aDJ:sT' 193 drS:=by
 intro args h o ho K hK;unfold drS at ho;split at ho
 case h_2=>cases ho
 split at ho<;>cases ho
 rename_i hm;obtain⟨⟨hl,ok⟩,hK⟩:=hK;have hh:=bB hm hl;cases hh;exact VJ _ _ _ _ K (aFW ok hK)
def aAM(t n:Int)(v:AVal)(g:aD Ob):Option (Prop×DRS):=match v,g with
 | .ptr 0 0,[some (.cells [.int .i64 t1,.int .i64 n1,.int .i64 th,.int .i64 at'])]=>some ((t1=t∧n1=n),(⟨th,at'⟩:DRS))
 | _,_=>none
abbrev VF(t n:Int)(y:DRS):aD Ob:=[some (.abs (.drop t n y) [])]
theorem VG{t n:Int} :cE (obI tbl) 0 (aAM t n) (fun y=>.ret (.ptr 0 0) (VF t n y)):=by
 intro v g p x hp hq K hK;unfold aAM at hp;split at hp
 case h_2=>cases hp
 rename_i t1 n1 th at';simp only [sI',pI']at hp;obtain⟨rfl,rfl⟩:=hp;obtain⟨rfl,rfl⟩:=hq;exact⟨⟨_,_,aF.pack (VF t1 n1 (⟨th,at'⟩:DRS)) (.drop t1 n1 (⟨th,at'⟩:DRS)) 0 0 (AR t1 n1 (⟨th,at'⟩:DRS)) [] (by kernel_rfl) rfl (congrArg (Prod.mk 0) rfl) (by kernel_rfl),hK⟩⟩
def aAN(t n:Int)(u:Int):Tr DRS:=.pre (t=t∧n=n) (.ret {th:=u,at':=0})
def nH(t n:Int)(u:Int):DRS:=(aAN t n u).val
def uG(t n:Int)(u:Int):Prop:=(aAN t n u).ok
def drNS:aG Ob:=fun args h=>match args,h with
 | [.agg [.int .i64 t,.int .i64 n],.int .i64 u],[]=>some (.pre (uG t n u) (.ret (.ptr 0 0) (VF t n (nH t n u))))
 | _,_=>none
theorem aAO:sT' 221 drNS:=by
 intro args h o ho K hK;unfold drNS at ho;split at ho<;>cases ho
 rename_i t n u;obtain⟨ok,hK⟩:=hK;refine aF0 (root:=0) (pos:=[]) (cs:=[]) (parse:=aAM t n) VG ?_;exact cM' (E:=EC2) (q:=(aAN t n u).run (fun y=>(Out.ret (.ptr 0 0) (VF t n y)).run K)) (by kernel_rfl) (aFW ok hK)
noncomputable def EC3:=((EC2.addS 193 drS aDJ).addS 221 drNS aAO)
end Go.Sh
