import Derived.Test.YteindpciaceeeaaGreatZM0toM35
set_option linter.all false
set_option maxHeartbeats 8000000
namespace Go.Sh
open Go Go.Proofs
variable [Con]
def swA(t n me sp:Int)(R:List Int)(s:MS):aC Ob:=[some (.cells [.ptr 1 0,.raw (.pointer none)]),some (.cells [.int .i64 t,.int .i64 n,.int .i64 me,.int .i64 sp,.slice 2 0 R.length 1]),some (.ints (some .i64) R),some (.cells [.int .i64 s.t,.int .i64 s.n,.slice 4 0 s.xs.length 1,.int .i64 s.c,.int .i64 s.k,.int .i64 s.a,.int .u64 s.o,.int .u64 s.w,.bool s.ok]),some (.ints (some .u64) s.xs)]
def aHr(t n me sp:Int)(R:List Int)(s:MS)(m:List (Int×Int))(i:Int):aC Ob:=[some (.cells [.ptr 1 0,.ptr 5 0]),some (.cells [.int .i64 t,.int .i64 n,.int .i64 me,.int .i64 sp,.slice 2 0 R.length 1]),some (.ints (some .i64) R),some (.cells [.int .i64 s.t,.int .i64 s.n,.slice 4 0 s.xs.length 1,.int .i64 s.c,.int .i64 s.k,.int .i64 s.a,.int .u64 s.o,.int .u64 s.w,.bool s.ok]),some (.ints (some .u64) s.xs),some (.cells [.int .i64 t,.int .i64 n,.raw (.slice none 0 0),.raw (.slice none 0 0),.slice 6 0 R.length 1,.map 7,.int .i64 i,.raw (.pointer none)]),some (.ints (some .i64) R),some (.imap .i64 none m)]
def swB(t n me sp:Int)(R N:List Int)(s:MS)(m:List (Int×Int))(i:Int):aC Ob:=[some (.cells [.ptr 1 0,.ptr 3 0]),some (.cells [.int .i64 t,.int .i64 n,.int .i64 me,.int .i64 sp,.slice 2 0 R.length 1]),some (.ints (some .i64) R),some (.cells [.int .i64 t,.int .i64 n,.raw (.slice none 0 0),.raw (.slice none 0 0),.slice 4 0 N.length 1,.map 5,.int .i64 i,.raw (.pointer none)]),some (.ints (some .i64) N),some (.imap .i64 none m),some (.cells [.int .i64 s.t,.int .i64 s.n,.slice 7 0 s.xs.length 1,.int .i64 s.c,.int .i64 s.k,.int .i64 s.a,.int .u64 s.o,.int .u64 s.w,.bool s.ok]),some (.ints (some .u64) s.xs)]
def Z2(t n me sp:Int)(st:AVal)(R N ks fs:List Int)(s:MS)(m:List (Int×Int))(i:Int):aC Ob:=[some (.cells [.ptr 1 0,.ptr 3 0]),some (.cells [.int .i64 t,.int .i64 n,.int .i64 me,.int .i64 sp,st]),some (.ints (some .i64) R),some (.cells [.int .i64 t,.int .i64 n,.slice 8 0 ks.length 1,.slice 9 0 fs.length 1,.slice 4 0 N.length 1,.map 5,.int .i64 i,.ptr 10 0]),some (.ints (some .i64) N),some (.imap .i64 none m),some (.cells [.int .i64 s.t,.int .i64 s.n,.slice 7 0 s.xs.length 1,.int .i64 s.c,.int .i64 s.k,.int .i64 s.a,.int .u64 s.o,.int .u64 s.w,.bool s.ok]),some (.ints (some .u64) s.xs),some (.ints (some .i64) ks),some (.ints (some .i64) fs),some (.cells [.int .i64 t,.int .i64 n,.slice 11 0 fs.length 1]),some (.ints (some .i64) fs)]
def swC(t n me sp:Int)(st:AVal)(R N ks fs gs:List Int)(s:MS)(m:List (Int×Int))(i:Int)(j l:Nat):aC Ob:=[some (.cells [.ptr 1 0,.ptr 3 0]),some (.cells [.int .i64 t,.int .i64 n,.int .i64 me,.int .i64 sp,st]),some (.ints (some .i64) R),some (.cells [.int .i64 t,.int .i64 n,.slice 4 0 ks.length 1,.slice 5 0 fs.length 1,.slice 6 0 N.length 1,.map 7,.int .i64 i,.ptr 8 0]),some (.ints (some .i64) ks),some (.ints (some .i64) fs),some (.ints (some .i64) N),some (.imap .i64 none m),some (.cells [.int .i64 t,.int .i64 n,.slice 9 j l 1]),some (.ints (some .i64) gs),some (.cells [.int .i64 s.t,.int .i64 s.n,.slice 11 0 s.xs.length 1,.int .i64 s.c,.int .i64 s.k,.int .i64 s.a,.int .u64 s.o,.int .u64 s.w,.bool s.ok]),some (.ints (some .u64) s.xs)]
def cJ(w:Nat)(h:aC Ob):Option (Nat×MS):=match h with
 | [some (.cells [.int .i64 t,.int .i64 n,.slice l 0 len 1,.int .i64 c,.int .i64 k,.int .i64 a,.int .u64 o,.int .u64 v,.bool ok]),some (.ints (some .u64) xs)]=>if l=w then some (len,⟨t,n,xs,c,k,a,o,v,ok⟩)else none
 | _=>none
theorem aZ{w:Nat}{h:aC Ob}{l:Nat}{s:MS}(e:cJ w h=some (l,s))(hl:l=s.xs.length):h=[some (.cells [.int .i64 s.t,.int .i64 s.n,.slice w 0 s.xs.length 1,.int .i64 s.c,.int .i64 s.k,.int .i64 s.a,.int .u64 s.o,.int .u64 s.w,.bool s.ok]),some (.ints (some .u64) s.xs)]:=by
 unfold cJ at e;split at e
 ·split at e
  ·rename_i hw;simp only [sI',pI']at e;obtain⟨rfl,rfl⟩:=e;subst hw;simp only at hl;subst hl;rfl
  ·cases e
 ·cases e
def bG(n i:Int):Int:=2*n+5+2*0+i
def aT(m:List (Int×Int))(n i:Int)(s:MS):List (Int×Int):=dB m (W (aE s.xs (bG n i))) 1
def bQ(n:Int)(gs:List Int)(j:Nat):Int:=n+4+List.getD gs (j+Int.toNat 0*1) 0
noncomputable def swS1:aH Ob:=fun args h=>match args,h with
 | [.ptr 0 0,.ptr 3 0],[some (.cells [.ptr 1 0,.raw (.pointer none)]),some (.cells [.int .i64 t,.int .i64 n,.int .i64 me,.int .i64 sp,.slice 2 0 k 1]),some (.ints (some .i64) R),e1,e2]=>(match cJ 4 [e1,e2]with
   | some (l,s)=>some (.pre ((l=s.xs.length/\k=R.length)/\(1<=t/\t<=1000)/\(1<=n/\n<=1000)/\(0<=s.c/\s.c<=1000000)/\R.length<=1000000) (.ret (.bool false) (aHr t n me sp R (s.loadd (bG n 0)) (aT [] n 0 s) 1)))
   | none=>none)
 | _,_=>none
noncomputable def swS2:aH Ob:=fun args h=>match args,h with
 | [.ptr 0 0,.ptr 6 0],[some (.cells [.ptr 1 0,.ptr 3 0]),some (.cells [.int .i64 t,.int .i64 n,.int .i64 me,.int .i64 sp,.slice 2 0 k 1]),some (.ints (some .i64) R),some (.cells [.int .i64 t',.int .i64 n',.raw (.slice none 0 0),.raw (.slice none 0 0),.slice 4 0 k' 1,.map 5,.int .i64 i,.raw (.pointer none)]),some (.ints (some .i64) N),some (.imap .i64 none m),e1,e2]=>(match cJ 7 [e1,e2]with
   | some (l,s)=>some (.pre ((l=s.xs.length/\k=R.length/\k'=N.length/\t'=t/\n'=n)/\(1<=t/\t<=1000)/\(1<=n/\n<=1000)/\(0<=s.c/\s.c<=1000000)/\N.length<=1000000/\(0<=i/\i<2*t)) (.ite (ieq (i+1) (2*t))
      (.ite (ieq ((aS (aT m n i s) N).length :Int) 0) (.ret (.bool true) (Z2 t n me sp (.slice 8 0 (cF (aT m n i s) N).length 1) R N (cF (aT m n i s) N) (aS (aT m n i s) N) (s.loadd (bG n i)) (aT m n i s) (i+1)))
        (.ret (.bool false) (Z2 t n me sp (.slice 2 0 R.length 1) R N (cF (aT m n i s) N) (aS (aT m n i s) N) (s.loadd (bG n i)) (aT m n i s) (i+1))))
      (.ret (.bool false) (swB t n me sp R N (s.loadd (bG n i)) (aT m n i s) (i+1)))))
   | none=>none)
 | _,_=>none
noncomputable def swS3:aH Ob:=fun args h=>match args,h with
 | [.ptr 0 0,.ptr 10 0],[some (.cells [.ptr 1 0,.ptr 3 0]),some (.cells [.int .i64 t,.int .i64 n,.int .i64 me,.int .i64 sp,.slice 2 0 k 1]),some (.ints (some .i64) R),some (.cells [.int .i64 t',.int .i64 n',.slice 4 0 k1 1,.slice 5 0 k2 1,.slice 6 0 k3 1,.map 7,.int .i64 i,.ptr 8 0]),some (.ints (some .i64) ks),some (.ints (some .i64) fs),some (.ints (some .i64) N),some (.imap .i64 none m),some (.cells [.int .i64 t'',.int .i64 n'',.slice 9 j l' 1]),some (.ints (some .i64) gs),e1,e2]=>(match cJ 11 [e1,e2]with
   | some (l,s)=>some (.pre ((l=s.xs.length/\k=R.length/\k1=ks.length/\k2=fs.length/\k3=N.length/\t'=t/\n'=n/\t''=t/\n''=n)/\(1<=t/\t<=1000)/\(1<=n/\n<=1000)/\(0<=s.c/\s.c<=1000000)/\2*t<=i/\(1<=l'/\gs.length=j+l')/\(-1000000<=List.getD gs (j+Int.toNat 0*1) 0/\List.getD gs (j+Int.toNat 0*1) 0<=1000000)) (.ite (ieq ((l' - 1:Nat):Int) 0)
      (.ret (.bool true) (swC t n me sp (.slice 4 0 ks.length 1) R N ks fs gs (s.added (bQ n gs j) 1) m i (j+1) (l' - 1)))
      (.ret (.bool false) (swC t n me sp (.slice 2 0 R.length 1) R N ks fs gs (s.added (bQ n gs j) 1) m i (j+1) (l' - 1)))))
   | none=>none)
 | _,_=>none
noncomputable def swStepS:aH Ob:=fun args h=>match swS1 args h with
 | some o=>some o
 | none=>match swS2 args h with
   | some o=>some o
   | none=>swS3 args h
theorem aEN(t n me sp:Int)(R:List Int)(s:MS)(K:AVal->aC Ob->Prop)(ht:1<=t/\t<=1000)(hn:1<=n/\n<=1000)(hc:0<=s.c/\s.c<=1000000)(hR:R.length<=1000000)(hK:K (.bool false) (aHr t n me sp R (s.loadd (bG n 0)) (aT [] n 0 s) 1)):aA E35.I Tryz.prog 169 [.ptr 0 0,.ptr 3 0] (swA t n me sp R s) K:=by
 refine aJ1 (cM' (E:=E35) (q:=((lE' R/\R.length<=(1000000:Nat))/\True)/\((((0:Int)<=t/\t<=(100000:Int))/\(0:Int)<=n/\n<=(100000:Int))/\True)/\bif ile (2*t) 0 then False else((((0:Int)<=t/\t<=(100000:Int))/\((0:Int)<=n/\n<=(100000:Int))/\((-1099511627776:Int)<=(0:Int)/\(0:Int)<=(1099511627776:Int))/\(-1099511627776:Int)<=(0:Int)/\(0:Int)<=(1099511627776:Int))/\True)/\((q9' s)/\True)/\((((0:Int)<=t/\t<=(100000:Int))/\(0:Int)<=n/\n<=(100000:Int))/\True)/\bif ieq (W (0+1)) (2*t)then((lE' R/\R.length<=(1000000:Nat))/\True)/\bif !ieq (↑(List.length (aS (dB [] (W (aE s.3 (2*n+5+2*0+0))) 1) R)):Int) 0 then K (.bool false) [some (.cells [.ptr 1 0,.ptr 5 0]),some (.cells [.int .i64 t,.int .i64 n,.int .i64 me,.int .i64 sp,.slice 2 0 R.length 1]),some (.ints (some .i64) R),some (.cells [.int .i64 s.1,.int .i64 s.2,.slice 4 0 s.3.length 1,.int .i64 (s.4+1),.int .i64 1,.int .i64 (2*n+5+2*0+0),.int .u64 (aE s.3 (2*n+5+2*0+0)),.int .u64 (aE s.3 (2*n+5+2*0+0)),.bool (dM s.3 (2*n+5+2*0+0))]),some (.ints (some .u64) s.3),some (.cells [.int .i64 t,.int .i64 n,.slice 6 0 (List.length (cF (dB [] (W (aE s.3 (2*n+5+2*0+0))) 1) R)) 1,.slice 7 0 (List.length (aS (dB [] (W (aE s.3 (2*n+5+2*0+0))) 1) R)) 1,.slice 8 0 R.length 1,.map 9,.int .i64 (W (0+1)),.ptr 10 0]),some (.ints (some .i64) (cF (dB [] (W (aE s.3 (2*n+5+2*0+0))) 1) R)),some (.ints (some .i64) (aS (dB [] (W (aE s.3 (2*n+5+2*0+0))) 1) R)),some (.ints (some .i64) R),some (.imap .i64 none (dB [] (W (aE s.3 (2*n+5+2*0+0))) 1)),some (.cells [.int .i64 t,.int .i64 n,.slice 11 0 (List.length (aS (dB [] (W (aE s.3 (2*n+5+2*0+0))) 1) R)) 1]),some (.ints (some .i64) (aS (dB [] (W (aE s.3 (2*n+5+2*0+0))) 1) R))]else K (.bool true) [some (.cells [.ptr 1 0,.ptr 5 0]),some (.cells [.int .i64 t,.int .i64 n,.int .i64 me,.int .i64 sp,.slice 6 0 (List.length (cF (dB [] (W (aE s.3 (2*n+5+2*0+0))) 1) R)) 1]),some (.ints (some .i64) R),some (.cells [.int .i64 s.1,.int .i64 s.2,.slice 4 0 s.3.length 1,.int .i64 (s.4+1),.int .i64 1,.int .i64 (2*n+5+2*0+0),.int .u64 (aE s.3 (2*n+5+2*0+0)),.int .u64 (aE s.3 (2*n+5+2*0+0)),.bool (dM s.3 (2*n+5+2*0+0))]),some (.ints (some .u64) s.3),some (.cells [.int .i64 t,.int .i64 n,.slice 6 0 (List.length (cF (dB [] (W (aE s.3 (2*n+5+2*0+0))) 1) R)) 1,.slice 7 0 (List.length (aS (dB [] (W (aE s.3 (2*n+5+2*0+0))) 1) R)) 1,.slice 8 0 R.length 1,.map 9,.int .i64 (W (0+1)),.ptr 10 0]),some (.ints (some .i64) (cF (dB [] (W (aE s.3 (2*n+5+2*0+0))) 1) R)),some (.ints (some .i64) (aS (dB [] (W (aE s.3 (2*n+5+2*0+0))) 1) R)),some (.ints (some .i64) R),some (.imap .i64 none (dB [] (W (aE s.3 (2*n+5+2*0+0))) 1)),some (.cells [.int .i64 t,.int .i64 n,.slice 11 0 (List.length (aS (dB [] (W (aE s.3 (2*n+5+2*0+0))) 1) R)) 1]),some (.ints (some .i64) (aS (dB [] (W (aE s.3 (2*n+5+2*0+0))) 1) R))]else K (.bool false) [some (.cells [.ptr 1 0,.ptr 5 0]),some (.cells [.int .i64 t,.int .i64 n,.int .i64 me,.int .i64 sp,.slice 2 0 R.length 1]),some (.ints (some .i64) R),some (.cells [.int .i64 s.1,.int .i64 s.2,.slice 4 0 s.3.length 1,.int .i64 (s.4+1),.int .i64 1,.int .i64 (2*n+5+2*0+0),.int .u64 (aE s.3 (2*n+5+2*0+0)),.int .u64 (aE s.3 (2*n+5+2*0+0)),.bool (dM s.3 (2*n+5+2*0+0))]),some (.ints (some .u64) s.3),some (.cells [.int .i64 t,.int .i64 n,.raw (Value.slice none 0 0),.raw (Value.slice none 0 0),.slice 6 0 R.length 1,.map 7,.int .i64 (W (0+1)),.raw (Value.pointer none)]),some (.ints (some .i64) R),some (.imap .i64 none (dB [] (W (aE s.3 (2*n+5+2*0+0))) 1))]) (by kernel_rfl) ?_)
 refine⟨⟨⟨rfl,hR⟩,trivial⟩,⟨by omega,trivial⟩,xM (fun h=>by omega) (fun _=>⟨⟨by omega,trivial⟩,⟨⟨rfl,by omega⟩,trivial⟩,⟨by omega,trivial⟩,?_⟩)⟩
 have e:W (0+1)=1:=by decide
 rw [e];refine H1 (fun h=>by omega) (fun _=>hK)
theorem aEO(t n me sp i:Int)(R N:List Int)(s:MS)(m:List (Int×Int))(K:AVal->aC Ob->Prop)(ht:1<=t/\t<=1000)(hn:1<=n/\n<=1000)(hc:0<=s.c/\s.c<=1000000)(hN:N.length<=1000000)(hi:0<=i/\i<2*t)
 (hK:cond (ieq (i+1) (2*t)) (cond (ieq ((aS (aT m n i s) N).length :Int) 0) (K (.bool true) (Z2 t n me sp (.slice 8 0 (cF (aT m n i s) N).length 1) R N (cF (aT m n i s) N) (aS (aT m n i s) N) (s.loadd (bG n i)) (aT m n i s) (i+1))) (K (.bool false) (Z2 t n me sp (.slice 2 0 R.length 1) R N (cF (aT m n i s) N) (aS (aT m n i s) N) (s.loadd (bG n i)) (aT m n i s) (i+1)))) (K (.bool false) (swB t n me sp R N (s.loadd (bG n i)) (aT m n i s) (i+1)))):aA E35.I Tryz.prog 169 [.ptr 0 0,.ptr 6 0] (swB t n me sp R N s m i) K:=by
 refine aJ1 (cM' (E:=E35) (q:=((((0:Int)<=t/\t<=(100000:Int))/\(0:Int)<=n/\n<=(100000:Int))/\True)/\bif ile (2*t) i then False else((((0:Int)<=t/\t<=(100000:Int))/\((0:Int)<=n/\n<=(100000:Int))/\((-1099511627776:Int)<=(0:Int)/\(0:Int)<=(1099511627776:Int))/\(-1099511627776:Int)<=i/\i<=(1099511627776:Int))/\True)/\((q9' s)/\True)/\((((0:Int)<=t/\t<=(100000:Int))/\(0:Int)<=n/\n<=(100000:Int))/\True)/\bif ieq (W (i+1)) (2*t)then((lE' N/\N.length<=(1000000:Nat))/\True)/\bif !ieq (↑(List.length (aS (dB m (W (aE s.3 (2*n+5+2*0+i))) 1) N)):Int) 0 then K (.bool false) [some (.cells [.ptr 1 0,.ptr 3 0]),some (.cells [.int .i64 t,.int .i64 n,.int .i64 me,.int .i64 sp,.slice 2 0 R.length 1]),some (.ints (some .i64) R),some (.cells [.int .i64 t,.int .i64 n,.slice 8 0 (List.length (cF (dB m (W (aE s.3 (2*n+5+2*0+i))) 1) N)) 1,.slice 9 0 (List.length (aS (dB m (W (aE s.3 (2*n+5+2*0+i))) 1) N)) 1,.slice 4 0 N.length 1,.map 5,.int .i64 (W (i+1)),.ptr 10 0]),some (.ints (some .i64) N),some (.imap .i64 none (dB m (W (aE s.3 (2*n+5+2*0+i))) 1)),some (.cells [.int .i64 s.1,.int .i64 s.2,.slice 7 0 s.3.length 1,.int .i64 (s.4+1),.int .i64 1,.int .i64 (2*n+5+2*0+i),.int .u64 (aE s.3 (2*n+5+2*0+i)),.int .u64 (aE s.3 (2*n+5+2*0+i)),.bool (dM s.3 (2*n+5+2*0+i))]),some (.ints (some .u64) s.3),some (.ints (some .i64) (cF (dB m (W (aE s.3 (2*n+5+2*0+i))) 1) N)),some (.ints (some .i64) (aS (dB m (W (aE s.3 (2*n+5+2*0+i))) 1) N)),some (.cells [.int .i64 t,.int .i64 n,.slice 11 0 (List.length (aS (dB m (W (aE s.3 (2*n+5+2*0+i))) 1) N)) 1]),some (.ints (some .i64) (aS (dB m (W (aE s.3 (2*n+5+2*0+i))) 1) N))]else K (.bool true) [some (.cells [.ptr 1 0,.ptr 3 0]),some (.cells [.int .i64 t,.int .i64 n,.int .i64 me,.int .i64 sp,.slice 8 0 (List.length (cF (dB m (W (aE s.3 (2*n+5+2*0+i))) 1) N)) 1]),some (.ints (some .i64) R),some (.cells [.int .i64 t,.int .i64 n,.slice 8 0 (List.length (cF (dB m (W (aE s.3 (2*n+5+2*0+i))) 1) N)) 1,.slice 9 0 (List.length (aS (dB m (W (aE s.3 (2*n+5+2*0+i))) 1) N)) 1,.slice 4 0 N.length 1,.map 5,.int .i64 (W (i+1)),.ptr 10 0]),some (.ints (some .i64) N),some (.imap .i64 none (dB m (W (aE s.3 (2*n+5+2*0+i))) 1)),some (.cells [.int .i64 s.1,.int .i64 s.2,.slice 7 0 s.3.length 1,.int .i64 (s.4+1),.int .i64 1,.int .i64 (2*n+5+2*0+i),.int .u64 (aE s.3 (2*n+5+2*0+i)),.int .u64 (aE s.3 (2*n+5+2*0+i)),.bool (dM s.3 (2*n+5+2*0+i))]),some (.ints (some .u64) s.3),some (.ints (some .i64) (cF (dB m (W (aE s.3 (2*n+5+2*0+i))) 1) N)),some (.ints (some .i64) (aS (dB m (W (aE s.3 (2*n+5+2*0+i))) 1) N)),some (.cells [.int .i64 t,.int .i64 n,.slice 11 0 (List.length (aS (dB m (W (aE s.3 (2*n+5+2*0+i))) 1) N)) 1]),some (.ints (some .i64) (aS (dB m (W (aE s.3 (2*n+5+2*0+i))) 1) N))]else K (.bool false) [some (.cells [.ptr 1 0,.ptr 3 0]),some (.cells [.int .i64 t,.int .i64 n,.int .i64 me,.int .i64 sp,.slice 2 0 R.length 1]),some (.ints (some .i64) R),some (.cells [.int .i64 t,.int .i64 n,.raw (Value.slice none 0 0),.raw (Value.slice none 0 0),.slice 4 0 N.length 1,.map 5,.int .i64 (W (i+1)),.raw (Value.pointer none)]),some (.ints (some .i64) N),some (.imap .i64 none (dB m (W (aE s.3 (2*n+5+2*0+i))) 1)),some (.cells [.int .i64 s.1,.int .i64 s.2,.slice 7 0 s.3.length 1,.int .i64 (s.4+1),.int .i64 1,.int .i64 (2*n+5+2*0+i),.int .u64 (aE s.3 (2*n+5+2*0+i)),.int .u64 (aE s.3 (2*n+5+2*0+i)),.bool (dM s.3 (2*n+5+2*0+i))]),some (.ints (some .u64) s.3)]) (by kernel_rfl) ?_)
 have e:W (i+1)=i+1:=yC (by omega)
 rw [e];refine⟨⟨by omega,trivial⟩,xM (fun h=>by omega) (fun _=>⟨⟨by omega,trivial⟩,⟨⟨rfl,by omega⟩,trivial⟩,⟨by omega,trivial⟩,?_⟩)⟩
 cases h1:ieq (i+1) (2*t)with
 | false=>rw [h1]at hK;exact hK
 | true=>
   rw [h1]at hK;refine⟨⟨⟨rfl,hN⟩,trivial⟩,?_⟩;cases h2:ieq ((aS (aT m n i s) N).length :Int) 0 with
   | false=>rw [h2]at hK;unfold aT bG at h2;rw [h2];exact hK
   | true=>rw [h2]at hK;unfold aT bG at h2;rw [h2];exact hK
theorem aEP(t n me sp i:Int)(R N ks fs gs:List Int)(s:MS)(m:List (Int×Int))(j l:Nat)(K:AVal->aC Ob->Prop)(ht:1<=t/\t<=1000)(hn:1<=n/\n<=1000)(hc:0<=s.c/\s.c<=1000000)(hi:2*t<=i)(hl:1<=l/\gs.length=j+l)(hg: -1000000<=List.getD gs (j+Int.toNat 0*1) 0/\List.getD gs (j+Int.toNat 0*1) 0<=1000000)
 (hK:cond (ieq ((l - 1:Nat):Int) 0) (K (.bool true) (swC t n me sp (.slice 4 0 ks.length 1) R N ks fs gs (s.added (bQ n gs j) 1) m i (j+1) (l - 1))) (K (.bool false) (swC t n me sp (.slice 2 0 R.length 1) R N ks fs gs (s.added (bQ n gs j) 1) m i (j+1) (l - 1)))):aA E35.I Tryz.prog 169 [.ptr 0 0,.ptr 10 0] (swC t n me sp (.slice 2 0 R.length 1) R N ks fs gs s m i j l) K:=by
 refine aJ1 (cM' (E:=E35) (q:=((((0:Int)<=t/\t<=(100000:Int))/\(0:Int)<=n/\n<=(100000:Int))/\True)/\bif ile (2*t) i then bif ieq (↑l:Int) 0 then(q9' s)/\K (.bool true) [some (.cells [.ptr 1 0,.ptr 3 0]),some (.cells [.int .i64 t,.int .i64 n,.int .i64 me,.int .i64 sp,.slice 4 0 ks.length 1]),some (.ints (some .i64) R),some (.cells [.int .i64 t,.int .i64 n,.slice 4 0 ks.length 1,.slice 5 0 fs.length 1,.slice 6 0 N.length 1,.map 7,.int .i64 i,.ptr 8 0]),some (.ints (some .i64) ks),some (.ints (some .i64) fs),some (.ints (some .i64) N),some (.imap .i64 none m),some (.cells [.int .i64 t,.int .i64 n,.slice 9 j l 1]),some (.ints (some .i64) gs),some (.cells [.int .i64 s.1,.int .i64 s.2,.slice 11 0 s.3.length 1,.int .i64 (s.4+1),.int .i64 1,.int .i64 0,.int .u64 (aE s.3 0),.int .u64 (aE s.3 0),.bool (dM s.3 0)]),some (.ints (some .u64) s.3)]else((0:Int)<=(0:Int)/\(0:Int)<(↑l:Int))/\j+Int.toNat 0*(1:Nat)<gs.length/\((((0:Int)<=t/\t<=(100000:Int))/\((0:Int)<=n/\n<=(100000:Int))/\(-1099511627776:Int)<=List.getD gs (j+Int.toNat 0*1) 0/\List.getD gs (j+Int.toNat 0*1) (0:Int)<=(1099511627776:Int))/\True)/\((q9' s)/\True)/\((0:Int)<=(1:Int)/\Int.toNat (1:Int)<=l)/\bif !ieq (↑(l - Int.toNat 1):Int) 0 then K (.bool false) [some (.cells [.ptr 1 0,.ptr 3 0]),some (.cells [.int .i64 t,.int .i64 n,.int .i64 me,.int .i64 sp,.slice 2 0 R.length 1]),some (.ints (some .i64) R),some (.cells [.int .i64 t,.int .i64 n,.slice 4 0 ks.length 1,.slice 5 0 fs.length 1,.slice 6 0 N.length 1,.map 7,.int .i64 i,.ptr 8 0]),some (.ints (some .i64) ks),some (.ints (some .i64) fs),some (.ints (some .i64) N),some (.imap .i64 none m),some (.cells [.int .i64 t,.int .i64 n,.slice 9 (j+Int.toNat 1*1) (l - Int.toNat 1) 1]),some (.ints (some .i64) gs),some (.cells [.int .i64 s.1,.int .i64 s.2,.slice 11 0 (List.length (bA s.3 (n+4+List.getD gs (j+Int.toNat 0*1) 0) (WU (aE s.3 (n+4+List.getD gs (j+Int.toNat 0*1) 0)+1)))) 1,.int .i64 (s.4+1),.int .i64 4,.int .i64 (n+4+List.getD gs (j+Int.toNat 0*1) 0),.int .u64 (aE s.3 (n+4+List.getD gs (j+Int.toNat 0*1) 0)),.int .u64 (bif dM s.3 (n+4+List.getD gs (j+Int.toNat 0*1) 0)then WU (aE s.3 (n+4+List.getD gs (j+Int.toNat 0*1) 0)+1)else 0),.bool (dM s.3 (n+4+List.getD gs (j+Int.toNat 0*1) 0))]),some (.ints (some .u64) (bA s.3 (n+4+List.getD gs (j+Int.toNat 0*1) 0) (WU (aE s.3 (n+4+List.getD gs (j+Int.toNat 0*1) 0)+1))))]else K (.bool true) [some (.cells [.ptr 1 0,.ptr 3 0]),some (.cells [.int .i64 t,.int .i64 n,.int .i64 me,.int .i64 sp,.slice 4 0 ks.length 1]),some (.ints (some .i64) R),some (.cells [.int .i64 t,.int .i64 n,.slice 4 0 ks.length 1,.slice 5 0 fs.length 1,.slice 6 0 N.length 1,.map 7,.int .i64 i,.ptr 8 0]),some (.ints (some .i64) ks),some (.ints (some .i64) fs),some (.ints (some .i64) N),some (.imap .i64 none m),some (.cells [.int .i64 t,.int .i64 n,.slice 9 (j+Int.toNat 1*1) (l - Int.toNat 1) 1]),some (.ints (some .i64) gs),some (.cells [.int .i64 s.1,.int .i64 s.2,.slice 11 0 (List.length (bA s.3 (n+4+List.getD gs (j+Int.toNat 0*1) 0) (WU (aE s.3 (n+4+List.getD gs (j+Int.toNat 0*1) 0)+1)))) 1,.int .i64 (s.4+1),.int .i64 4,.int .i64 (n+4+List.getD gs (j+Int.toNat 0*1) 0),.int .u64 (aE s.3 (n+4+List.getD gs (j+Int.toNat 0*1) 0)),.int .u64 (bif dM s.3 (n+4+List.getD gs (j+Int.toNat 0*1) 0)then WU (aE s.3 (n+4+List.getD gs (j+Int.toNat 0*1) 0)+1)else 0),.bool (dM s.3 (n+4+List.getD gs (j+Int.toNat 0*1) 0))]),some (.ints (some .u64) (bA s.3 (n+4+List.getD gs (j+Int.toNat 0*1) 0) (WU (aE s.3 (n+4+List.getD gs (j+Int.toNat 0*1) 0)+1))))]else((((0:Int)<=t/\t<=(100000:Int))/\((0:Int)<=n/\n<=(100000:Int))/\((-1099511627776:Int)<=(0:Int)/\(0:Int)<=(1099511627776:Int))/\(-1099511627776:Int)<=i/\i<=(1099511627776:Int))/\True)/\((q9' s)/\True)/\((((0:Int)<=t/\t<=(100000:Int))/\(0:Int)<=n/\n<=(100000:Int))/\True)/\bif ieq (W (i+1)) (2*t)then False else K (.bool false) [some (.cells [.ptr 1 0,.ptr 3 0]),some (.cells [.int .i64 t,.int .i64 n,.int .i64 me,.int .i64 sp,.slice 2 0 R.length 1]),some (.ints (some .i64) R),some (.cells [.int .i64 t,.int .i64 n,.slice 4 0 ks.length 1,.slice 5 0 fs.length 1,.slice 6 0 N.length 1,.map 7,.int .i64 (W (i+1)),.ptr 8 0]),some (.ints (some .i64) ks),some (.ints (some .i64) fs),some (.ints (some .i64) N),some (.imap .i64 none (dB m (W (aE s.3 (2*n+5+2*0+i))) 1)),some (.cells [.int .i64 t,.int .i64 n,.slice 9 j l 1]),some (.ints (some .i64) gs),some (.cells [.int .i64 s.1,.int .i64 s.2,.slice 11 0 s.3.length 1,.int .i64 (s.4+1),.int .i64 1,.int .i64 (2*n+5+2*0+i),.int .u64 (aE s.3 (2*n+5+2*0+i)),.int .u64 (aE s.3 (2*n+5+2*0+i)),.bool (dM s.3 (2*n+5+2*0+i))]),some (.ints (some .u64) s.3)]) (by kernel_rfl) ?_)
 refine⟨⟨by omega,trivial⟩,xM (fun h=>H1 (fun h0=>by omega) (fun _=>⟨by omega,by omega,⟨by omega,trivial⟩,⟨⟨rfl,by omega⟩,trivial⟩,by omega,?_⟩)) (fun h=>by omega)⟩
 have e:l - Int.toNat 1=l - 1:=rfl;rw [e];cases h1:ieq ((l - 1:Nat):Int) 0 with
 | false=>rw [h1]at hK;exact hK
 | true=>rw [h1]at hK;exact hK
theorem Z4:aH.ok E35.I Tryz.prog 169 swS1:=by
 intro args h o ho K hK;unfold swS1 at ho;split at ho
 case h_2=>cases ho
 split at ho<;>cases ho
 rename_i hm;obtain⟨⟨⟨hl,hk⟩,ht,hn,hc,hR⟩,hK⟩:=hK;have hh:=aZ hm hl;cases hh;subst hk;exact aEN _ _ _ _ _ _ K ht hn hc hR hK
theorem Z5:aH.ok E35.I Tryz.prog 169 swS2:=by
 intro args h o ho K hK;unfold swS2 at ho;split at ho
 case h_2=>cases ho
 split at ho<;>cases ho
 rename_i hm;obtain⟨⟨⟨hl,hk,hk',h1,h2⟩,ht,hn,hc,hN,hi⟩,hK⟩:=hK;have hh:=aZ hm hl;cases hh;subst hk hk' h1 h2;exact aEO _ _ _ _ _ _ _ _ _ K ht hn hc hN hi hK
theorem Z6:aH.ok E35.I Tryz.prog 169 swS3:=by
 intro args h o ho K hK;unfold swS3 at ho;split at ho
 case h_2=>cases ho
 split at ho<;>cases ho
 rename_i hm;obtain⟨⟨⟨hl,hk,hk1,hk2,hk3,h1,h2,h3,h4⟩,ht,hn,hc,hi,hl',hg⟩,hK⟩:=hK;have hh:=aZ hm hl;cases hh;subst hk hk1 hk2 hk3 h1 h2 h3 h4;exact aEP _ _ _ _ _ _ _ _ _ _ _ _ _ _ K ht hn hc hi hl' hg hK
theorem oF:aH.ok E35.I Tryz.prog 169 swStepS:=by
 intro args h o ho;unfold swStepS at ho;split at ho
 ·rename_i e;cases ho;exact Z4 _ _ _ e
 ·split at ho
  ·rename_i e;cases ho;exact Z5 _ _ _ e
  ·exact Z6 _ _ _ ho
noncomputable def E36:=E35.addS 169 swStepS oF
def alH(t n:Int)(x:AL)(s:MS):aC Ob:=[some (.cells [.int .i64 t,.int .i64 n,.int .i64 x.got,.int .i64 x.at',.int .i64 x.left,.int .u64 x.found,.bool x.free]),some (.cells [.int .i64 s.t,.int .i64 s.n,.slice 2 0 s.xs.length 1,.int .i64 s.c,.int .i64 s.k,.int .i64 s.a,.int .u64 s.o,.int .u64 s.w,.bool s.ok]),some (.ints (some .u64) s.xs)]
def oddB(y:Int):Bool:=!ieq (Int.tmod y 2) 0
def cP(n a:Int):Int:=Int.tmod a n+1
def aBL(t n:Int)(x:AL)(s:MS):Out Ob:=.ite x.free
 (.ite (bJ s.xs (n+4+x.at') x.found) (.ret (.bool true) (alH t n ⟨x.at',x.at',x.left,x.found,true⟩ (s.cased (n+4+x.at') x.found (WU (x.found+1)))))
   (.ret (.bool (ile (x.left - 1) 0)) (alH t n ⟨x.got,cP n x.at',x.left - 1,x.found,false⟩ (s.cased (n+4+x.at') x.found (WU (x.found+1))))))
 (.ite (oddB (aE s.xs (n+4+x.at'))) (.ret (.bool (ile (x.left - 1) 0)) (alH t n ⟨x.got,cP n x.at',x.left - 1,aE s.xs (n+4+x.at'),false⟩ (s.loadd (n+4+x.at'))))
   (.ret (.bool false) (alH t n ⟨x.got,x.at',x.left,aE s.xs (n+4+x.at'),true⟩ (s.loadd (n+4+x.at')))))
theorem UO(t n:Int)(x:AL)(s:MS)(K:AVal->aC Ob->Prop)(ht:1<=t/\t<=1000)(hn:1<=n/\n<=1000)(ha:1<=x.at'/\x.at'<=n)(hl:0<=x.left/\x.left<=1000)(hc:0<=s.c/\s.c<=1000000)(hK:(aBL t n x s).run K):aA E36.I Tryz.prog 211 [.ptr 0 0,.ptr 1 0] (alH t n x s) K:=by
 refine aJ1 (cM' (E:=E36) (q:=bif !x.5 then((((0:Int)<=t/\t<=(100000:Int))/\((0:Int)<=n/\n<=(100000:Int))/\(-1099511627776:Int)<=x.2/\x.2<=(1099511627776:Int))/\True)/\((lE' s.3/\(0:Int)<=s.4/\s.4<=(4611686018427387904:Int))/\True)/\(2:Int)≠(0:Int)/\bif !ieq (Int.tmod (aE s.3 (n+4+x.2)) 2) 0 then n≠(0:Int)/\K (.bool (ile (W (x.3 - 1)) 0)) [some (.cells [.int .i64 t,.int .i64 n,.int .i64 x.1,.int .i64 (W (Int.tmod x.2 n+1)),.int .i64 (W (x.3 - 1)),.int .u64 (aE s.3 (n+4+x.2)),.bool false]),some (.cells [.int .i64 s.1,.int .i64 s.2,.slice 2 0 s.3.length 1,.int .i64 (s.4+1),.int .i64 1,.int .i64 (n+4+x.2),.int .u64 (aE s.3 (n+4+x.2)),.int .u64 (aE s.3 (n+4+x.2)),.bool (dM s.3 (n+4+x.2))]),some (.ints (some .u64) s.3)]else K (.bool false) [some (.cells [.int .i64 t,.int .i64 n,.int .i64 x.1,.int .i64 x.2,.int .i64 x.3,.int .u64 (aE s.3 (n+4+x.2)),.bool (ieq (Int.tmod (aE s.3 (n+4+x.2)) 2) 0)]),some (.cells [.int .i64 s.1,.int .i64 s.2,.slice 2 0 s.3.length 1,.int .i64 (s.4+1),.int .i64 1,.int .i64 (n+4+x.2),.int .u64 (aE s.3 (n+4+x.2)),.int .u64 (aE s.3 (n+4+x.2)),.bool (dM s.3 (n+4+x.2))]),some (.ints (some .u64) s.3)]else((((0:Int)<=t/\t<=(100000:Int))/\((0:Int)<=n/\n<=(100000:Int))/\(-1099511627776:Int)<=x.2/\x.2<=(1099511627776:Int))/\True)/\((lE' s.3/\(0:Int)<=s.4/\s.4<=(4611686018427387904:Int))/\True)/\bif bJ s.3 (n+4+x.2) x.4 then K (.bool true) [some (.cells [.int .i64 t,.int .i64 n,.int .i64 x.2,.int .i64 x.2,.int .i64 x.3,.int .u64 x.4,.bool x.5]),some (.cells [.int .i64 s.1,.int .i64 s.2,.slice 2 0 (List.length (bif bJ s.3 (n+4+x.2) x.4 then bA s.3 (n+4+x.2) (WU (x.4+1))else s.3)) 1,.int .i64 (s.4+1),.int .i64 3,.int .i64 (n+4+x.2),.int .u64 (aE s.3 (n+4+x.2)),.int .u64 (bif dM s.3 (n+4+x.2)then WU (x.4+1)else 0),.bool (bJ s.3 (n+4+x.2) x.4)]),some (.ints (some .u64) (bif bJ s.3 (n+4+x.2) x.4 then bA s.3 (n+4+x.2) (WU (x.4+1))else s.3))]else n≠(0:Int)/\K (.bool (ile (W (x.3 - 1)) 0)) [some (.cells [.int .i64 t,.int .i64 n,.int .i64 x.1,.int .i64 (W (Int.tmod x.2 n+1)),.int .i64 (W (x.3 - 1)),.int .u64 x.4,.bool false]),some (.cells [.int .i64 s.1,.int .i64 s.2,.slice 2 0 (List.length (bif bJ s.3 (n+4+x.2) x.4 then bA s.3 (n+4+x.2) (WU (x.4+1))else s.3)) 1,.int .i64 (s.4+1),.int .i64 3,.int .i64 (n+4+x.2),.int .u64 (aE s.3 (n+4+x.2)),.int .u64 (bif dM s.3 (n+4+x.2)then WU (x.4+1)else 0),.bool (bJ s.3 (n+4+x.2) x.4)]),some (.ints (some .u64) (bif bJ s.3 (n+4+x.2) x.4 then bA s.3 (n+4+x.2) (WU (x.4+1))else s.3))]) (by kernel_rfl) ?_)
 obtain⟨got,at',left,found,free⟩:=x;dsimp only at ha hl⊢;have hm:=aAc (x:=at') (t:=n) (by omega) (by omega)
 have e1:W (left - 1)=left - 1:=yC (by omega)
 have e2:W (Int.tmod at' n+1)=cP n at':=yC (by show _<=Int.tmod at' n+1/\Int.tmod at' n+1<=_;omega)
 rw [e1,e2];unfold aBL at hK;dsimp only [Out.run]at hK;cases free with
 | false=>
   simp only [cond_false,Bool.not_false,cond_true]at hK⊢;refine⟨⟨by omega,trivial⟩,⟨⟨trivial,by omega⟩,trivial⟩,by omega,?_⟩
   unfold oddB at hK;generalize ho:ieq (Int.tmod (aE s.xs (n+4+at')) 2) 0=b at hK⊢;cases b with
   | false=>exact⟨by omega,hK⟩
   | true=>exact hK
 | true=>
   simp only [cond_true,Bool.not_true,cond_false]at hK⊢;refine⟨⟨by omega,trivial⟩,⟨⟨trivial,by omega⟩,trivial⟩,?_⟩
   unfold alH at hK;cases hb:bJ s.xs (n+4+at') found with
   | true=>
     rw [hb]at hK;simp only [cond_true]at hK⊢;unfold MS.cased at hK;rw [hb]at hK;exact hK
   | false=>
     rw [hb]at hK;simp only [cond_false]at hK⊢;unfold MS.cased at hK;rw [hb]at hK;exact⟨by omega,hK⟩
noncomputable def alS:aH Ob:=fun args h=>match args,h with
 | [.ptr 0 0,.ptr 1 0],[some (.cells [.int .i64 t,.int .i64 n,.int .i64 got,.int .i64 at',.int .i64 left,.int .u64 found,.bool free]),e1,e2]=>match cJ 2 [e1,e2]with
   | some (l,s)=>some (.pre (l=s.xs.length/\(1<=t/\t<=1000)/\(1<=n/\n<=1000)/\(1<=at'/\at'<=n)/\(0<=left/\left<=1000)/\(0<=s.c/\s.c<=1000000)) (aBL t n ⟨got,at',left,found,free⟩ s))
   | none=>none
 | _,_=>none
theorem aFG:aH.ok E36.I Tryz.prog 211 alS:=by
 intro args h o ho K hK;unfold alS at ho;split at ho
 case h_2=>cases ho
 split at ho<;>cases ho
 rename_i hm;obtain⟨⟨hl,ht,hn,ha,hl',hc⟩,hK⟩:=hK;have hh:=aZ hm hl;cases hh;exact UO _ _ _ _ K ht hn ha hl' hc hK
noncomputable def E42:=E36.addS 211 alS aFG
theorem ZD{xs:List Int}(h:ZC xs){a x:Int}(hx:0<=x/\x<=18446744073709551615):ZC (bA xs a x):=by
 unfold bA;split
 ·refine⟨fun y hy=>?_⟩;rcases List.mem_or_eq_of_mem_set hy with h1 | h1
  ·exact h.h y h1
  ·subst h1;exact hx
 ·exact h
theorem NY(x:Int):0<=WU x/\WU x<=18446744073709551615:=by
 unfold WU;simp only [IntKind.wrap,IntKind.bits,IntKind.signed]
 simp
 omega
theorem L2(m:List (Int×Int))(k v r:Int):mget (dB m k v) r=if r=k then some v else mget m r:=by
 induction m with
 | nil=>
   unfold dB mget
   by_cases h:r=k
   ·subst h;simp
   ·have h': ¬k=r:=fun c=>h c.symm;simp [h,h']
 | cons x m ih=>
   unfold dB
   by_cases hx:x.1=k
   ·rw [if_pos hx];unfold mget
    by_cases h:r=k
    ·subst h;simp
    ·have h': ¬k=r:=fun c=>h c.symm;have h2: ¬x.1=r:=by rw [hx];exact h'
     simp [h,h',h2]
   ·rw [if_neg hx];unfold mget at ih⊢
    by_cases h2:x.1=r
    ·have h3: ¬r=k:=by rw [<-h2];exact hx
     simp [h2,h3]
    ·simp only [List.find?_cons,beq_iff_eq,h2];have h4:(x.1 == r)=false:=by simpa using h2
     rw [h4];exact ih
structure EO where
 d:Bool
 e:ENS
 st:STS
 s:MS
def at0(t n me:Int):Int:=bif bC n (aO t n me)then aO t n me else 1
def KQ(e:ENS)(st:STS)(x:AL)(s:MS):EO:=match ile x.left 0 with
 | true=>⟨e.dn||ieq (st.R.length:Int) 0,{e with ph:=2,sh:=e.dn||ieq (st.R.length:Int) 0,x:=x},{st with sp:=0},s⟩
 | false=>⟨false,{e with ph:=1,x:=x},st,s⟩
def rQ(n:Int)(e:ENS)(st:STS)(x:AL)(s:MS):EO:=match x.free with
 | true=>(match bJ s.xs (n+4+x.at') x.found with
   | true=>⟨true,{e with ph:=1,x:=⟨x.at',x.at',x.left,x.found,true⟩ },{st with sp:=x.at'},s.cased (n+4+x.at') x.found (WU (x.found+1))⟩
   | false=>KQ e st ⟨0,cP n x.at',x.left - 1,x.found,false⟩ (s.cased (n+4+x.at') x.found (WU (x.found+1))))
 | false=>(match oddB (aE s.xs (n+4+x.at'))with
   | true=>KQ e st ⟨0,cP n x.at',x.left - 1,aE s.xs (n+4+x.at'),false⟩ (s.loadd (n+4+x.at'))
   | false=>⟨false,{e with ph:=1,x:=⟨0,x.at',x.left,aE s.xs (n+4+x.at'),true⟩ },st,s.loadd (n+4+x.at')⟩)
instance:Inhabited EO:=⟨⟨false,bV,⟨0,0,[]⟩,⟨0,0,[],0,0,0,0,0,false⟩⟩⟩
def enF(t n:Int)(e:ENS)(st:STS)(s:MS):EO:=match e.ph with
 | 0=>(match ieq st.sp 0 with
   | true=>rQ n e st ⟨0,at0 t n st.me,n,0,false⟩ s
   | false=>⟨true,e,st,s.loadd 0⟩)
 | 1=>rQ n e st e.x s
 | 2=>⟨false,{e with ph:=3,y:= {e.y with N:=st.R,m:=aT [] n 0 s,i:=1} },st,s.loadd (bG n 0)⟩
 | 3=>(match ieq (e.y.i+1) (2*t),ieq ((aS (aT e.y.m n e.y.i s) e.y.N).length :Int) 0 with
   | true,true=>⟨true,{e with ph:=0,sh:=true,dn:=true},{st with R:=cF (aT e.y.m n e.y.i s) e.y.N},s.loadd (bG n e.y.i)⟩
   | true,false=>⟨false,{e with ph:=4,y:=⟨0,e.y.N,aT e.y.m n e.y.i s,e.y.i+1,cF (aT e.y.m n e.y.i s) e.y.N,aS (aT e.y.m n e.y.i s) e.y.N,aS (aT e.y.m n e.y.i s) e.y.N,0,(aS (aT e.y.m n e.y.i s) e.y.N).length⟩ },st,s.loadd (bG n e.y.i)⟩
   | false,_=>⟨false,{e with y:= {e.y with m:=aT e.y.m n e.y.i s,i:=e.y.i+1} },st,s.loadd (bG n e.y.i)⟩)
 | _=>(match ieq ((e.y.l - 1:Nat):Int) 0 with
   | true=>⟨ieq (e.y.fs.length:Int) 0,{e with ph:=0,sh:=ieq (e.y.fs.length:Int) 0,dn:=true},{st with R:=e.y.ks},s.added (bQ n e.y.gs e.y.j) 1⟩
   | false=>⟨false,{e with y:= {e.y with j:=e.y.j+1,l:=e.y.l - 1} },st,s.added (bQ n e.y.gs e.y.j) 1⟩)
structure okAl (n:Int) (x:AL):Prop where
 hg:x.got=0
 ha:1<=x.at'/\x.at'<=n
 hl:0<=x.left/\x.left<=1000
def aHi(t n:Int)(e:ENS)(st:STS):Prop:=match e.ph with
 | 0=>True
 | 1=>okAl n e.x
 | 2=>True
 | 3=>e.y.N.length<=1000000/\0<=e.y.i/\e.y.i<2*t
 | 4=>2*t<=e.y.i/\1<=e.y.l/\e.y.gs.length=e.y.j+e.y.l/\ -1000000<=List.getD e.y.gs (e.y.j+Int.toNat 0*1) 0/\List.getD e.y.gs (e.y.j+Int.toNat 0*1) 0<=1000000
 | _=>False
structure L8 (t n:Int) (e:ENS) (st:STS) (s:MS):Prop where
 ht:1<=t/\t<=1000
 hn:1<=n/\n<=1000
 hc:0<=s.c/\s.c<=1000000
 hm:0<=st.me/\st.me<=1000
 hR:st.R.length<=1000000
 ho:aHi t n e st
abbrev aX(l:Nat)(s:MS):Option (aG Mc):=some (.cells [.int .i64 s.t,.int .i64 s.n,.slice l 0 s.xs.length 1,.int .i64 s.c,.int .i64 s.k,.int .i64 s.a,.int .u64 s.o,.int .u64 s.w,.bool s.ok])
abbrev aY(s:MS):Option (aG Mc):=some (.ints (some .u64) s.xs)
def WV(t n:Int)(e:ENS)(st:STS)(s:MS):aC Ob:=[some (.abs (.ensure t n e) [1]),some (.abs (.store t n st) []),aX 3 s,aY s]
def EO.left(o:EO)(t n:Int)(K:AVal->aC Ob->Prop):Prop:=K (.bool o.d) (WV t n o.e o.st o.s)
theorem gH{K:AVal->aC Ob->Prop}{t n:Int}{o:EO}{g':aC Ob}(pl:List Nat)(hK:o.left t n K)
 (hb:(dO pl g'.length&&gO pl 0 4&&obOk 1 (DU t n o.e))=true)
 (hT:fZ pl g'=aP [some (.abs (.ensure t n o.e) [1]),some (.cells [.int .i64 t,.int .i64 n,.int .i64 o.st.me,.int .i64 o.st.sp,.slice 4 0 o.st.R.length 1]),aX 3 o.s,aY o.s,some (.ints (some .i64) o.st.R)] 0 1 (DU t n o.e) [1]):AB tbl 4 (AB tbl 4 K) (.bool o.d) g':=by
 simp only [Bool.and_eq_true]at hb;obtain⟨⟨b1,b2⟩,b3⟩:=hb;refine⟨pl,_,.ensure t n o.e,0,1,_,[1],?_,hT,rfl,rfl,⟨[0,1,2,3,4],[some (.abs (.ensure t n o.e) [1]),some (.abs (.store t n o.st) []),aX 3 o.s,aY o.s],.store t n o.st,1,0,dK t n o.st,[],rfl,rfl,rfl,rfl,?_⟩⟩
 ·rw [b1,b2,b3];rfl
 ·exact hK
theorem aIm(t n me sp:Int)(R:List Int)(sh dn:Bool)(x:AL)(y:SWS)(s:MS)(K:AVal->aC Ob->Prop)(hK:bif !ieq sp 0 then(q9' s)/\K (.bool true) [some (.cells [.ptr 1 0,.bool sh,.raw (Value.pointer none),.raw (Value.pointer none),.bool dn]),some (.cells [.int .i64 t,.int .i64 n,.int .i64 me,.int .i64 sp,.slice 4 0 R.length 1]),some (.cells [.int .i64 s.1,.int .i64 s.2,.slice 3 0 s.3.length 1,.int .i64 (s.4+1),.int .i64 1,.int .i64 0,.int .u64 (aE s.3 0),.int .u64 (aE s.3 0),.bool (dM s.3 0)]),some (.ints (some .u64) s.3),some (.ints (some .i64) R)]else(((0:Int)<=me/\me<=(100000:Int))/\(0:Int)<=n/\n<=(100000:Int))/\(True/\True)/\(lE' s.3/\((1:Int)<=t/\t<=(1000:Int))/\((1:Int)<=n/\n<=(1000:Int))/\(((1:Int)<=bif bC n (aO t n me)then aO t n me else 1)/\(bif bC n (aO t n me)then aO t n me else 1)<=n)/\((0:Int)<=n/\n<=(1000:Int))/\(0:Int)<=s.4/\s.4<=(1000000:Int))/\bif oddB (aE s.3 (n+4+bif bC n (aO t n me)then aO t n me else 1))then bif !ile (n - 1) 0 then K (.bool false) [some (.cells [.ptr 1 0,.bool sh,.ptr 5 0,.raw (Value.pointer none),.bool dn]),some (.cells [.int .i64 t,.int .i64 n,.int .i64 me,.int .i64 sp,.slice 4 0 R.length 1]),some (.cells [.int .i64 s.1,.int .i64 s.2,.slice 3 0 s.3.length 1,.int .i64 (s.4+1),.int .i64 1,.int .i64 (n+4+bif bC n (aO t n me)then aO t n me else 1),.int .u64 (aE s.3 (n+4+bif bC n (aO t n me)then aO t n me else 1)),.int .u64 (aE s.3 (n+4+bif bC n (aO t n me)then aO t n me else 1)),.bool (dM s.3 (n+4+bif bC n (aO t n me)then aO t n me else 1))]),some (.ints (some .u64) s.3),some (.ints (some .i64) R),some (.cells [.int .i64 t,.int .i64 n,.int .i64 0,.int .i64 (cP n (bif bC n (aO t n me)then aO t n me else 1)),.int .i64 (n - 1),.int .u64 (aE s.3 (n+4+bif bC n (aO t n me)then aO t n me else 1)),.bool false])]else bif dn then K (.bool true) [some (.cells [.ptr 1 0,.bool true,.ptr 5 0,.ptr 6 0,.bool dn]),some (.cells [.int .i64 t,.int .i64 n,.int .i64 me,.int .i64 0,.slice 4 0 R.length 1]),some (.cells [.int .i64 s.1,.int .i64 s.2,.slice 3 0 s.3.length 1,.int .i64 (s.4+1),.int .i64 1,.int .i64 (n+4+bif bC n (aO t n me)then aO t n me else 1),.int .u64 (aE s.3 (n+4+bif bC n (aO t n me)then aO t n me else 1)),.int .u64 (aE s.3 (n+4+bif bC n (aO t n me)then aO t n me else 1)),.bool (dM s.3 (n+4+bif bC n (aO t n me)then aO t n me else 1))]),some (.ints (some .u64) s.3),some (.ints (some .i64) R),some (.cells [.int .i64 t,.int .i64 n,.int .i64 0,.int .i64 (cP n (bif bC n (aO t n me)then aO t n me else 1)),.int .i64 (n - 1),.int .u64 (aE s.3 (n+4+bif bC n (aO t n me)then aO t n me else 1)),.bool false]),some (.cells [.ptr 1 0,.raw (Value.pointer none)])]else K (.bool (ieq (↑R.length:Int) 0)) [some (.cells [.ptr 1 0,.bool (ieq (↑R.length:Int) 0),.ptr 5 0,.ptr 6 0,.bool dn]),some (.cells [.int .i64 t,.int .i64 n,.int .i64 me,.int .i64 0,.slice 4 0 R.length 1]),some (.cells [.int .i64 s.1,.int .i64 s.2,.slice 3 0 s.3.length 1,.int .i64 (s.4+1),.int .i64 1,.int .i64 (n+4+bif bC n (aO t n me)then aO t n me else 1),.int .u64 (aE s.3 (n+4+bif bC n (aO t n me)then aO t n me else 1)),.int .u64 (aE s.3 (n+4+bif bC n (aO t n me)then aO t n me else 1)),.bool (dM s.3 (n+4+bif bC n (aO t n me)then aO t n me else 1))]),some (.ints (some .u64) s.3),some (.ints (some .i64) R),some (.cells [.int .i64 t,.int .i64 n,.int .i64 0,.int .i64 (cP n (bif bC n (aO t n me)then aO t n me else 1)),.int .i64 (n - 1),.int .u64 (aE s.3 (n+4+bif bC n (aO t n me)then aO t n me else 1)),.bool false]),some (.cells [.ptr 1 0,.raw (Value.pointer none)])]else K (.bool false) [some (.cells [.ptr 1 0,.bool sh,.ptr 5 0,.raw (Value.pointer none),.bool dn]),some (.cells [.int .i64 t,.int .i64 n,.int .i64 me,.int .i64 sp,.slice 4 0 R.length 1]),some (.cells [.int .i64 s.1,.int .i64 s.2,.slice 3 0 s.3.length 1,.int .i64 (s.4+1),.int .i64 1,.int .i64 (n+4+bif bC n (aO t n me)then aO t n me else 1),.int .u64 (aE s.3 (n+4+bif bC n (aO t n me)then aO t n me else 1)),.int .u64 (aE s.3 (n+4+bif bC n (aO t n me)then aO t n me else 1)),.bool (dM s.3 (n+4+bif bC n (aO t n me)then aO t n me else 1))]),some (.ints (some .u64) s.3),some (.ints (some .i64) R),some (.cells [.int .i64 t,.int .i64 n,.int .i64 0,.int .i64 (bif bC n (aO t n me)then aO t n me else 1),.int .i64 n,.int .u64 (aE s.3 (n+4+bif bC n (aO t n me)then aO t n me else 1)),.bool true])]):cT' 154 [.ptr 0 0,.ptr 2 0] [some (.cells [.ptr 1 0,.bool sh,.raw (.pointer none),.raw (.pointer none),.bool dn]),some (.cells [.int .i64 t,.int .i64 n,.int .i64 me,.int .i64 sp,.slice 4 0 R.length 1]),aX 3 s,aY s,some (.ints (some .i64) R)] K:=by
 refine aJ1 (cM' (E:=E42) (by kernel_rfl) hK)
theorem aIn(t n me sp:Int)(R:List Int)(sh dn:Bool)(x:AL)(y:SWS)(s:MS)(K:AVal->aC Ob->Prop)(hK:(lE' s.3/\((1:Int)<=t/\t<=(1000:Int))/\((1:Int)<=n/\n<=(1000:Int))/\((1:Int)<=x.2/\x.2<=n)/\((0:Int)<=x.3/\x.3<=(1000:Int))/\(0:Int)<=s.4/\s.4<=(1000000:Int))/\bif x.5 then bif bJ s.3 (n+4+x.2) x.4 then bif !ieq x.2 0 then K (.bool true) [some (.cells [.ptr 1 0,.bool sh,.ptr 5 0,.raw (Value.pointer none),.bool dn]),some (.cells [.int .i64 t,.int .i64 n,.int .i64 me,.int .i64 x.2,.slice 4 0 R.length 1]),some (.cells [.int .i64 s.1,.int .i64 s.2,.slice 3 0 (List.length (bif bJ s.3 (n+4+x.2) x.4 then bA s.3 (n+4+x.2) (WU (x.4+1))else s.3)) 1,.int .i64 (s.4+1),.int .i64 3,.int .i64 (n+4+x.2),.int .u64 (aE s.3 (n+4+x.2)),.int .u64 (bif dM s.3 (n+4+x.2)then WU (x.4+1)else 0),.bool (bJ s.3 (n+4+x.2) x.4)]),some (.ints (some .u64) (bif bJ s.3 (n+4+x.2) x.4 then bA s.3 (n+4+x.2) (WU (x.4+1))else s.3)),some (.ints (some .i64) R),some (.cells [.int .i64 t,.int .i64 n,.int .i64 x.2,.int .i64 x.2,.int .i64 x.3,.int .u64 x.4,.bool true])]else bif dn then K (.bool true) [some (.cells [.ptr 1 0,.bool true,.ptr 5 0,.ptr 6 0,.bool dn]),some (.cells [.int .i64 t,.int .i64 n,.int .i64 me,.int .i64 x.2,.slice 4 0 R.length 1]),some (.cells [.int .i64 s.1,.int .i64 s.2,.slice 3 0 (List.length (bif bJ s.3 (n+4+x.2) x.4 then bA s.3 (n+4+x.2) (WU (x.4+1))else s.3)) 1,.int .i64 (s.4+1),.int .i64 3,.int .i64 (n+4+x.2),.int .u64 (aE s.3 (n+4+x.2)),.int .u64 (bif dM s.3 (n+4+x.2)then WU (x.4+1)else 0),.bool (bJ s.3 (n+4+x.2) x.4)]),some (.ints (some .u64) (bif bJ s.3 (n+4+x.2) x.4 then bA s.3 (n+4+x.2) (WU (x.4+1))else s.3)),some (.ints (some .i64) R),some (.cells [.int .i64 t,.int .i64 n,.int .i64 x.2,.int .i64 x.2,.int .i64 x.3,.int .u64 x.4,.bool true]),some (.cells [.ptr 1 0,.raw (Value.pointer none)])]else K (.bool (ieq (↑R.length:Int) 0)) [some (.cells [.ptr 1 0,.bool (ieq (↑R.length:Int) 0),.ptr 5 0,.ptr 6 0,.bool dn]),some (.cells [.int .i64 t,.int .i64 n,.int .i64 me,.int .i64 x.2,.slice 4 0 R.length 1]),some (.cells [.int .i64 s.1,.int .i64 s.2,.slice 3 0 (List.length (bif bJ s.3 (n+4+x.2) x.4 then bA s.3 (n+4+x.2) (WU (x.4+1))else s.3)) 1,.int .i64 (s.4+1),.int .i64 3,.int .i64 (n+4+x.2),.int .u64 (aE s.3 (n+4+x.2)),.int .u64 (bif dM s.3 (n+4+x.2)then WU (x.4+1)else 0),.bool (bJ s.3 (n+4+x.2) x.4)]),some (.ints (some .u64) (bif bJ s.3 (n+4+x.2) x.4 then bA s.3 (n+4+x.2) (WU (x.4+1))else s.3)),some (.ints (some .i64) R),some (.cells [.int .i64 t,.int .i64 n,.int .i64 x.2,.int .i64 x.2,.int .i64 x.3,.int .u64 x.4,.bool true]),some (.cells [.ptr 1 0,.raw (Value.pointer none)])]else bif !ile (x.3 - 1) 0 then K (.bool false) [some (.cells [.ptr 1 0,.bool sh,.ptr 5 0,.raw (Value.pointer none),.bool dn]),some (.cells [.int .i64 t,.int .i64 n,.int .i64 me,.int .i64 sp,.slice 4 0 R.length 1]),some (.cells [.int .i64 s.1,.int .i64 s.2,.slice 3 0 (List.length (bif bJ s.3 (n+4+x.2) x.4 then bA s.3 (n+4+x.2) (WU (x.4+1))else s.3)) 1,.int .i64 (s.4+1),.int .i64 3,.int .i64 (n+4+x.2),.int .u64 (aE s.3 (n+4+x.2)),.int .u64 (bif dM s.3 (n+4+x.2)then WU (x.4+1)else 0),.bool (bJ s.3 (n+4+x.2) x.4)]),some (.ints (some .u64) (bif bJ s.3 (n+4+x.2) x.4 then bA s.3 (n+4+x.2) (WU (x.4+1))else s.3)),some (.ints (some .i64) R),some (.cells [.int .i64 t,.int .i64 n,.int .i64 x.1,.int .i64 (cP n x.2),.int .i64 (x.3 - 1),.int .u64 x.4,.bool false])]else bif !ieq x.1 0 then K (.bool true) [some (.cells [.ptr 1 0,.bool sh,.ptr 5 0,.raw (Value.pointer none),.bool dn]),some (.cells [.int .i64 t,.int .i64 n,.int .i64 me,.int .i64 x.1,.slice 4 0 R.length 1]),some (.cells [.int .i64 s.1,.int .i64 s.2,.slice 3 0 (List.length (bif bJ s.3 (n+4+x.2) x.4 then bA s.3 (n+4+x.2) (WU (x.4+1))else s.3)) 1,.int .i64 (s.4+1),.int .i64 3,.int .i64 (n+4+x.2),.int .u64 (aE s.3 (n+4+x.2)),.int .u64 (bif dM s.3 (n+4+x.2)then WU (x.4+1)else 0),.bool (bJ s.3 (n+4+x.2) x.4)]),some (.ints (some .u64) (bif bJ s.3 (n+4+x.2) x.4 then bA s.3 (n+4+x.2) (WU (x.4+1))else s.3)),some (.ints (some .i64) R),some (.cells [.int .i64 t,.int .i64 n,.int .i64 x.1,.int .i64 (cP n x.2),.int .i64 (x.3 - 1),.int .u64 x.4,.bool false])]else bif dn then K (.bool true) [some (.cells [.ptr 1 0,.bool true,.ptr 5 0,.ptr 6 0,.bool dn]),some (.cells [.int .i64 t,.int .i64 n,.int .i64 me,.int .i64 x.1,.slice 4 0 R.length 1]),some (.cells [.int .i64 s.1,.int .i64 s.2,.slice 3 0 (List.length (bif bJ s.3 (n+4+x.2) x.4 then bA s.3 (n+4+x.2) (WU (x.4+1))else s.3)) 1,.int .i64 (s.4+1),.int .i64 3,.int .i64 (n+4+x.2),.int .u64 (aE s.3 (n+4+x.2)),.int .u64 (bif dM s.3 (n+4+x.2)then WU (x.4+1)else 0),.bool (bJ s.3 (n+4+x.2) x.4)]),some (.ints (some .u64) (bif bJ s.3 (n+4+x.2) x.4 then bA s.3 (n+4+x.2) (WU (x.4+1))else s.3)),some (.ints (some .i64) R),some (.cells [.int .i64 t,.int .i64 n,.int .i64 x.1,.int .i64 (cP n x.2),.int .i64 (x.3 - 1),.int .u64 x.4,.bool false]),some (.cells [.ptr 1 0,.raw (Value.pointer none)])]else K (.bool (ieq (↑R.length:Int) 0)) [some (.cells [.ptr 1 0,.bool (ieq (↑R.length:Int) 0),.ptr 5 0,.ptr 6 0,.bool dn]),some (.cells [.int .i64 t,.int .i64 n,.int .i64 me,.int .i64 x.1,.slice 4 0 R.length 1]),some (.cells [.int .i64 s.1,.int .i64 s.2,.slice 3 0 (List.length (bif bJ s.3 (n+4+x.2) x.4 then bA s.3 (n+4+x.2) (WU (x.4+1))else s.3)) 1,.int .i64 (s.4+1),.int .i64 3,.int .i64 (n+4+x.2),.int .u64 (aE s.3 (n+4+x.2)),.int .u64 (bif dM s.3 (n+4+x.2)then WU (x.4+1)else 0),.bool (bJ s.3 (n+4+x.2) x.4)]),some (.ints (some .u64) (bif bJ s.3 (n+4+x.2) x.4 then bA s.3 (n+4+x.2) (WU (x.4+1))else s.3)),some (.ints (some .i64) R),some (.cells [.int .i64 t,.int .i64 n,.int .i64 x.1,.int .i64 (cP n x.2),.int .i64 (x.3 - 1),.int .u64 x.4,.bool false]),some (.cells [.ptr 1 0,.raw (Value.pointer none)])]else bif oddB (aE s.3 (n+4+x.2))then bif !ile (x.3 - 1) 0 then K (.bool false) [some (.cells [.ptr 1 0,.bool sh,.ptr 5 0,.raw (Value.pointer none),.bool dn]),some (.cells [.int .i64 t,.int .i64 n,.int .i64 me,.int .i64 sp,.slice 4 0 R.length 1]),some (.cells [.int .i64 s.1,.int .i64 s.2,.slice 3 0 s.3.length 1,.int .i64 (s.4+1),.int .i64 1,.int .i64 (n+4+x.2),.int .u64 (aE s.3 (n+4+x.2)),.int .u64 (aE s.3 (n+4+x.2)),.bool (dM s.3 (n+4+x.2))]),some (.ints (some .u64) s.3),some (.ints (some .i64) R),some (.cells [.int .i64 t,.int .i64 n,.int .i64 x.1,.int .i64 (cP n x.2),.int .i64 (x.3 - 1),.int .u64 (aE s.3 (n+4+x.2)),.bool false])]else bif !ieq x.1 0 then K (.bool true) [some (.cells [.ptr 1 0,.bool sh,.ptr 5 0,.raw (Value.pointer none),.bool dn]),some (.cells [.int .i64 t,.int .i64 n,.int .i64 me,.int .i64 x.1,.slice 4 0 R.length 1]),some (.cells [.int .i64 s.1,.int .i64 s.2,.slice 3 0 s.3.length 1,.int .i64 (s.4+1),.int .i64 1,.int .i64 (n+4+x.2),.int .u64 (aE s.3 (n+4+x.2)),.int .u64 (aE s.3 (n+4+x.2)),.bool (dM s.3 (n+4+x.2))]),some (.ints (some .u64) s.3),some (.ints (some .i64) R),some (.cells [.int .i64 t,.int .i64 n,.int .i64 x.1,.int .i64 (cP n x.2),.int .i64 (x.3 - 1),.int .u64 (aE s.3 (n+4+x.2)),.bool false])]else bif dn then K (.bool true) [some (.cells [.ptr 1 0,.bool true,.ptr 5 0,.ptr 6 0,.bool dn]),some (.cells [.int .i64 t,.int .i64 n,.int .i64 me,.int .i64 x.1,.slice 4 0 R.length 1]),some (.cells [.int .i64 s.1,.int .i64 s.2,.slice 3 0 s.3.length 1,.int .i64 (s.4+1),.int .i64 1,.int .i64 (n+4+x.2),.int .u64 (aE s.3 (n+4+x.2)),.int .u64 (aE s.3 (n+4+x.2)),.bool (dM s.3 (n+4+x.2))]),some (.ints (some .u64) s.3),some (.ints (some .i64) R),some (.cells [.int .i64 t,.int .i64 n,.int .i64 x.1,.int .i64 (cP n x.2),.int .i64 (x.3 - 1),.int .u64 (aE s.3 (n+4+x.2)),.bool false]),some (.cells [.ptr 1 0,.raw (Value.pointer none)])]else K (.bool (ieq (↑R.length:Int) 0)) [some (.cells [.ptr 1 0,.bool (ieq (↑R.length:Int) 0),.ptr 5 0,.ptr 6 0,.bool dn]),some (.cells [.int .i64 t,.int .i64 n,.int .i64 me,.int .i64 x.1,.slice 4 0 R.length 1]),some (.cells [.int .i64 s.1,.int .i64 s.2,.slice 3 0 s.3.length 1,.int .i64 (s.4+1),.int .i64 1,.int .i64 (n+4+x.2),.int .u64 (aE s.3 (n+4+x.2)),.int .u64 (aE s.3 (n+4+x.2)),.bool (dM s.3 (n+4+x.2))]),some (.ints (some .u64) s.3),some (.ints (some .i64) R),some (.cells [.int .i64 t,.int .i64 n,.int .i64 x.1,.int .i64 (cP n x.2),.int .i64 (x.3 - 1),.int .u64 (aE s.3 (n+4+x.2)),.bool false]),some (.cells [.ptr 1 0,.raw (Value.pointer none)])]else K (.bool false) [some (.cells [.ptr 1 0,.bool sh,.ptr 5 0,.raw (Value.pointer none),.bool dn]),some (.cells [.int .i64 t,.int .i64 n,.int .i64 me,.int .i64 sp,.slice 4 0 R.length 1]),some (.cells [.int .i64 s.1,.int .i64 s.2,.slice 3 0 s.3.length 1,.int .i64 (s.4+1),.int .i64 1,.int .i64 (n+4+x.2),.int .u64 (aE s.3 (n+4+x.2)),.int .u64 (aE s.3 (n+4+x.2)),.bool (dM s.3 (n+4+x.2))]),some (.ints (some .u64) s.3),some (.ints (some .i64) R),some (.cells [.int .i64 t,.int .i64 n,.int .i64 x.1,.int .i64 x.2,.int .i64 x.3,.int .u64 (aE s.3 (n+4+x.2)),.bool true])]):cT' 154 [.ptr 0 0,.ptr 2 0] [some (.cells [.ptr 1 0,.bool sh,.ptr 5 0,.raw (.pointer none),.bool dn]),some (.cells [.int .i64 t,.int .i64 n,.int .i64 me,.int .i64 sp,.slice 4 0 R.length 1]),aX 3 s,aY s,some (.ints (some .i64) R),alE t n x] K:=by
 refine aJ1 (cM' (E:=E42) (by kernel_rfl) hK)
theorem aIo(t n me sp:Int)(R:List Int)(sh dn:Bool)(x:AL)(y:SWS)(s:MS)(K:AVal->aC Ob->Prop)(hK:((lE' s.3/\lE' R)/\((1:Int)<=t/\t<=(1000:Int))/\((1:Int)<=n/\n<=(1000:Int))/\((0:Int)<=s.4/\s.4<=(1000000:Int))/\R.length<=(1000000:Nat))/\K (.bool false) [some (.cells [.ptr 1 0,.bool sh,.ptr 5 0,.ptr 6 0,.bool dn]),some (.cells [.int .i64 t,.int .i64 n,.int .i64 me,.int .i64 sp,.slice 4 0 R.length 1]),some (.cells [.int .i64 s.1,.int .i64 s.2,.slice 3 0 s.3.length 1,.int .i64 (s.4+1),.int .i64 1,.int .i64 (bG n 0),.int .u64 (aE s.3 (bG n 0)),.int .u64 (aE s.3 (bG n 0)),.bool (dM s.3 (bG n 0))]),some (.ints (some .u64) s.3),some (.ints (some .i64) R),some (.cells [.int .i64 t,.int .i64 n,.int .i64 x.1,.int .i64 x.2,.int .i64 x.3,.int .u64 x.4,.bool x.5]),some (.cells [.ptr 1 0,.ptr 7 0]),some (.cells [.int .i64 t,.int .i64 n,.raw (Value.slice none 0 0),.raw (Value.slice none 0 0),.slice 8 0 R.length 1,.map 9,.int .i64 1,.raw (Value.pointer none)]),some (.ints (some .i64) R),some (.imap .i64 none (aT [] n 0 s))]):cT' 154 [.ptr 0 0,.ptr 2 0] [some (.cells [.ptr 1 0,.bool sh,.ptr 5 0,.ptr 6 0,.bool dn]),some (.cells [.int .i64 t,.int .i64 n,.int .i64 me,.int .i64 sp,.slice 4 0 R.length 1]),aX 3 s,aY s,some (.ints (some .i64) R),alE t n x,some (.cells [.ptr 1 0,.raw (.pointer none)])] K:=by
 refine aJ1 (cM' (E:=E42) (by kernel_rfl) hK)
theorem aIp(t n me sp:Int)(R:List Int)(sh dn:Bool)(x:AL)(y:SWS)(s:MS)(K:AVal->aC Ob->Prop)(hK:((lE' s.3/\lE' R/\lE' y.2/\t=t/\n=n)/\((1:Int)<=t/\t<=(1000:Int))/\((1:Int)<=n/\n<=(1000:Int))/\((0:Int)<=s.4/\s.4<=(1000000:Int))/\y.2.length<=(1000000:Nat)/\(0:Int)<=y.4/\y.4<(2:Int)*t)/\bif ieq (y.4+1) (2*t)then bif ieq (↑(List.length (aS (aT y.3 n y.4 s) y.2)):Int) 0 then K (.bool (ieq (↑(List.length (aS (aT y.3 n y.4 s) y.2)):Int) 0)) [some (.cells [.ptr 1 0,.bool (ieq (↑(List.length (aS (aT y.3 n y.4 s) y.2)):Int) 0),.raw (Value.pointer none),.raw (Value.pointer none),.bool true]),some (.cells [.int .i64 t,.int .i64 n,.int .i64 me,.int .i64 sp,.slice 10 0 (List.length (cF (aT y.3 n y.4 s) y.2)) 1]),some (.cells [.int .i64 s.1,.int .i64 s.2,.slice 3 0 s.3.length 1,.int .i64 (s.4+1),.int .i64 1,.int .i64 (bG n y.4),.int .u64 (aE s.3 (bG n y.4)),.int .u64 (aE s.3 (bG n y.4)),.bool (dM s.3 (bG n y.4))]),some (.ints (some .u64) s.3),some (.ints (some .i64) R),some (.cells [.int .i64 t,.int .i64 n,.int .i64 x.1,.int .i64 x.2,.int .i64 x.3,.int .u64 x.4,.bool x.5]),some (.cells [.ptr 1 0,.ptr 7 0]),some (.cells [.int .i64 t,.int .i64 n,.slice 10 0 (List.length (cF (aT y.3 n y.4 s) y.2)) 1,.slice 11 0 (List.length (aS (aT y.3 n y.4 s) y.2)) 1,.slice 8 0 y.2.length 1,.map 9,.int .i64 (y.4+1),.ptr 12 0]),some (.ints (some .i64) y.2),some (.imap .i64 none (aT y.3 n y.4 s)),some (.ints (some .i64) (cF (aT y.3 n y.4 s) y.2)),some (.ints (some .i64) (aS (aT y.3 n y.4 s) y.2)),some (.cells [.int .i64 t,.int .i64 n,.slice 13 0 (List.length (aS (aT y.3 n y.4 s) y.2)) 1]),some (.ints (some .i64) (aS (aT y.3 n y.4 s) y.2))]else K (.bool false) [some (.cells [.ptr 1 0,.bool sh,.ptr 5 0,.ptr 6 0,.bool dn]),some (.cells [.int .i64 t,.int .i64 n,.int .i64 me,.int .i64 sp,.slice 4 0 R.length 1]),some (.cells [.int .i64 s.1,.int .i64 s.2,.slice 3 0 s.3.length 1,.int .i64 (s.4+1),.int .i64 1,.int .i64 (bG n y.4),.int .u64 (aE s.3 (bG n y.4)),.int .u64 (aE s.3 (bG n y.4)),.bool (dM s.3 (bG n y.4))]),some (.ints (some .u64) s.3),some (.ints (some .i64) R),some (.cells [.int .i64 t,.int .i64 n,.int .i64 x.1,.int .i64 x.2,.int .i64 x.3,.int .u64 x.4,.bool x.5]),some (.cells [.ptr 1 0,.ptr 7 0]),some (.cells [.int .i64 t,.int .i64 n,.slice 10 0 (List.length (cF (aT y.3 n y.4 s) y.2)) 1,.slice 11 0 (List.length (aS (aT y.3 n y.4 s) y.2)) 1,.slice 8 0 y.2.length 1,.map 9,.int .i64 (y.4+1),.ptr 12 0]),some (.ints (some .i64) y.2),some (.imap .i64 none (aT y.3 n y.4 s)),some (.ints (some .i64) (cF (aT y.3 n y.4 s) y.2)),some (.ints (some .i64) (aS (aT y.3 n y.4 s) y.2)),some (.cells [.int .i64 t,.int .i64 n,.slice 13 0 (List.length (aS (aT y.3 n y.4 s) y.2)) 1]),some (.ints (some .i64) (aS (aT y.3 n y.4 s) y.2))]else K (.bool false) [some (.cells [.ptr 1 0,.bool sh,.ptr 5 0,.ptr 6 0,.bool dn]),some (.cells [.int .i64 t,.int .i64 n,.int .i64 me,.int .i64 sp,.slice 4 0 R.length 1]),some (.cells [.int .i64 s.1,.int .i64 s.2,.slice 3 0 s.3.length 1,.int .i64 (s.4+1),.int .i64 1,.int .i64 (bG n y.4),.int .u64 (aE s.3 (bG n y.4)),.int .u64 (aE s.3 (bG n y.4)),.bool (dM s.3 (bG n y.4))]),some (.ints (some .u64) s.3),some (.ints (some .i64) R),some (.cells [.int .i64 t,.int .i64 n,.int .i64 x.1,.int .i64 x.2,.int .i64 x.3,.int .u64 x.4,.bool x.5]),some (.cells [.ptr 1 0,.ptr 7 0]),some (.cells [.int .i64 t,.int .i64 n,.raw (Value.slice none 0 0),.raw (Value.slice none 0 0),.slice 8 0 y.2.length 1,.map 9,.int .i64 (y.4+1),.raw (Value.pointer none)]),some (.ints (some .i64) y.2),some (.imap .i64 none (aT y.3 n y.4 s))]):cT' 154 [.ptr 0 0,.ptr 2 0] [some (.cells [.ptr 1 0,.bool sh,.ptr 5 0,.ptr 6 0,.bool dn]),some (.cells [.int .i64 t,.int .i64 n,.int .i64 me,.int .i64 sp,.slice 4 0 R.length 1]),aX 3 s,aY s,some (.ints (some .i64) R),alE t n x,some (.cells [.ptr 1 0,.ptr 7 0]),some (.cells [.int .i64 t,.int .i64 n,.raw (.slice none 0 0),.raw (.slice none 0 0),.slice 8 0 y.N.length 1,.map 9,.int .i64 y.i,.raw (.pointer none)]),some (.ints (some .i64) y.N),some (.imap .i64 none y.m)] K:=by
 refine aJ1 (cM' (E:=E42) (by kernel_rfl) hK)
theorem aIq(t n me sp:Int)(R:List Int)(sh dn:Bool)(x:AL)(y:SWS)(s:MS)(K:AVal->aC Ob->Prop)(hK:((lE' s.3/\lE' R/\lE' y.5/\lE' y.6/\lE' y.2/\t=t/\n=n/\t=t/\n=n)/\((1:Int)<=t/\t<=(1000:Int))/\((1:Int)<=n/\n<=(1000:Int))/\((0:Int)<=s.4/\s.4<=(1000000:Int))/\2*t<=y.4/\((1:Nat)<=y.9/\y.7.length=y.8+y.9)/\(-1000000:Int)<=List.getD y.7 (y.8+Int.toNat 0*1) 0/\List.getD y.7 (y.8+Int.toNat 0*1) (0:Int)<=(1000000:Int))/\bif ieq (↑(y.9 - 1):Int) 0 then K (.bool (ieq (↑y.6.length:Int) 0)) [some (.cells [.ptr 1 0,.bool (ieq (↑y.6.length:Int) 0),.raw (Value.pointer none),.raw (Value.pointer none),.bool true]),some (.cells [.int .i64 t,.int .i64 n,.int .i64 me,.int .i64 sp,.slice 8 0 y.5.length 1]),some (.cells [.int .i64 s.1,.int .i64 s.2,.slice 3 0 (List.length (bA s.3 (bQ n y.7 y.8) (WU (aE s.3 (bQ n y.7 y.8)+1)))) 1,.int .i64 (s.4+1),.int .i64 4,.int .i64 (bQ n y.7 y.8),.int .u64 (aE s.3 (bQ n y.7 y.8)),.int .u64 (bif dM s.3 (bQ n y.7 y.8)then WU (aE s.3 (bQ n y.7 y.8)+1)else 0),.bool (dM s.3 (bQ n y.7 y.8))]),some (.ints (some .u64) (bA s.3 (bQ n y.7 y.8) (WU (aE s.3 (bQ n y.7 y.8)+1)))),some (.ints (some .i64) R),some (.cells [.int .i64 t,.int .i64 n,.int .i64 x.1,.int .i64 x.2,.int .i64 x.3,.int .u64 x.4,.bool x.5]),some (.cells [.ptr 1 0,.ptr 7 0]),some (.cells [.int .i64 t,.int .i64 n,.slice 8 0 y.5.length 1,.slice 9 0 y.6.length 1,.slice 10 0 y.2.length 1,.map 11,.int .i64 y.4,.ptr 12 0]),some (.ints (some .i64) y.5),some (.ints (some .i64) y.6),some (.ints (some .i64) y.2),some (.imap .i64 none y.3),some (.cells [.int .i64 t,.int .i64 n,.slice 13 (y.8+1) (y.9 - 1) 1]),some (.ints (some .i64) y.7)]else K (.bool false) [some (.cells [.ptr 1 0,.bool sh,.ptr 5 0,.ptr 6 0,.bool dn]),some (.cells [.int .i64 t,.int .i64 n,.int .i64 me,.int .i64 sp,.slice 4 0 R.length 1]),some (.cells [.int .i64 s.1,.int .i64 s.2,.slice 3 0 (List.length (bA s.3 (bQ n y.7 y.8) (WU (aE s.3 (bQ n y.7 y.8)+1)))) 1,.int .i64 (s.4+1),.int .i64 4,.int .i64 (bQ n y.7 y.8),.int .u64 (aE s.3 (bQ n y.7 y.8)),.int .u64 (bif dM s.3 (bQ n y.7 y.8)then WU (aE s.3 (bQ n y.7 y.8)+1)else 0),.bool (dM s.3 (bQ n y.7 y.8))]),some (.ints (some .u64) (bA s.3 (bQ n y.7 y.8) (WU (aE s.3 (bQ n y.7 y.8)+1)))),some (.ints (some .i64) R),some (.cells [.int .i64 t,.int .i64 n,.int .i64 x.1,.int .i64 x.2,.int .i64 x.3,.int .u64 x.4,.bool x.5]),some (.cells [.ptr 1 0,.ptr 7 0]),some (.cells [.int .i64 t,.int .i64 n,.slice 8 0 y.5.length 1,.slice 9 0 y.6.length 1,.slice 10 0 y.2.length 1,.map 11,.int .i64 y.4,.ptr 12 0]),some (.ints (some .i64) y.5),some (.ints (some .i64) y.6),some (.ints (some .i64) y.2),some (.imap .i64 none y.3),some (.cells [.int .i64 t,.int .i64 n,.slice 13 (y.8+1) (y.9 - 1) 1]),some (.ints (some .i64) y.7)]):cT' 154 [.ptr 0 0,.ptr 2 0] [some (.cells [.ptr 1 0,.bool sh,.ptr 5 0,.ptr 6 0,.bool dn]),some (.cells [.int .i64 t,.int .i64 n,.int .i64 me,.int .i64 sp,.slice 4 0 R.length 1]),aX 3 s,aY s,some (.ints (some .i64) R),alE t n x,some (.cells [.ptr 1 0,.ptr 7 0]),some (.cells [.int .i64 t,.int .i64 n,.slice 8 0 y.ks.length 1,.slice 9 0 y.fs.length 1,.slice 10 0 y.N.length 1,.map 11,.int .i64 y.i,.ptr 12 0]),some (.ints (some .i64) y.ks),some (.ints (some .i64) y.fs),some (.ints (some .i64) y.N),some (.imap .i64 none y.m),some (.cells [.int .i64 t,.int .i64 n,.slice 13 y.j y.l 1]),some (.ints (some .i64) y.gs)] K:=by
 refine aJ1 (cM' (E:=E42) (by kernel_rfl) hK)
theorem en2(t n:Int)(e:ENS)(st:STS)(s:MS)(K:AVal->aC Ob->Prop)(hp:e.ph=2)(ok:L8 t n e st s)(hK:(enF t n e st s).left t n K):cT' 154 [.ptr 0 0,.ptr 2 0] (WV t n e st s) K:=by
 obtain⟨ht,hn,hc,hm,hR,ho⟩:=ok;obtain⟨ph,sh,dn,x,y⟩:=e;dsimp only at hp;subst hp;obtain⟨me,sp,R⟩:=st;dsimp only at hm hR;refine aA.pack tbl (aA.pack tbl ?_);refine aA.unpack tbl (.store t n ⟨me,sp,R⟩) 1 0 (dK t n ⟨me,sp,R⟩) [] rfl rfl rfl rfl ?_;refine aA.unpack tbl (.ensure t n ⟨2,sh,dn,x,y⟩) 0 1 (DU t n ⟨2,sh,dn,x,y⟩) [1] rfl rfl rfl rfl ?_;refine aIo t n me sp R sh dn x y s _ ?_;exact⟨⟨⟨rfl,rfl⟩,ht,hn,hc,hR⟩,gH (o:=enF t n ⟨2,sh,dn,x,y⟩ ⟨me,sp,R⟩ s) [0,1,2,3,4,5,6,7,8,9] hK rfl rfl⟩
theorem en3(t n:Int)(e:ENS)(st:STS)(s:MS)(K:AVal->aC Ob->Prop)(hp:e.ph=3)(ok:L8 t n e st s)(hK:(enF t n e st s).left t n K):cT' 154 [.ptr 0 0,.ptr 2 0] (WV t n e st s) K:=by
 obtain⟨ht,hn,hc,hm,hR,ho⟩:=ok;obtain⟨ph,sh,dn,x,y⟩:=e;dsimp only at hp;subst hp;obtain⟨me,sp,R⟩:=st;dsimp only at hm hR;refine aA.pack tbl (aA.pack tbl ?_);refine aA.unpack tbl (.store t n ⟨me,sp,R⟩) 1 0 (dK t n ⟨me,sp,R⟩) [] rfl rfl rfl rfl ?_;refine aA.unpack tbl (.ensure t n ⟨3,sh,dn,x,y⟩) 0 1 (DU t n ⟨3,sh,dn,x,y⟩) [1] rfl rfl rfl rfl ?_;refine aIp t n me sp R sh dn x y s _ ?_;have ho:y.N.length<=1000000/\0<=y.i/\y.i<2*t:=ho;refine⟨⟨⟨rfl,rfl,rfl,rfl,rfl⟩,ht,hn,hc,ho.1,ho.2⟩,?_⟩;unfold enF at hK;dsimp only at hK;cases h1:ieq (y.i+1) (2*t)with
 | false=>
   rw [h1]at hK;exact gH (o:=⟨false,⟨3,sh,dn,x,{y with m:=aT y.m n y.i s,i:=y.i+1}⟩,⟨me,sp,R⟩,s.loadd (bG n y.i)⟩) [0,1,2,3,4,5,6,7,8,9] hK rfl rfl
 | true=>
   rw [h1]at hK;cases h2:ieq ((aS (aT y.m n y.i s) y.N).length :Int) 0 with
   | true=>
     rw [h2]at hK;exact gH (o:=⟨true,⟨0,true,true,x,y⟩,⟨me,sp,cF (aT y.m n y.i s) y.N⟩,s.loadd (bG n y.i)⟩) [0,1,2,3,10] hK rfl rfl
   | false=>
     rw [h2]at hK;exact gH (o:=⟨false,⟨4,sh,dn,x,⟨0,y.N,aT y.m n y.i s,y.i+1,cF (aT y.m n y.i s) y.N,aS (aT y.m n y.i s) y.N,aS (aT y.m n y.i s) y.N,0,(aS (aT y.m n y.i s) y.N).length⟩⟩,⟨me,sp,R⟩,s.loadd (bG n y.i)⟩) [0,1,2,3,4,5,6,7,10,11,8,9,12,13] hK rfl rfl
theorem en4(t n:Int)(e:ENS)(st:STS)(s:MS)(K:AVal->aC Ob->Prop)(hp:e.ph=4)(ok:L8 t n e st s)(hK:(enF t n e st s).left t n K):cT' 154 [.ptr 0 0,.ptr 2 0] (WV t n e st s) K:=by
 obtain⟨ht,hn,hc,hm,hR,ho⟩:=ok;obtain⟨ph,sh,dn,x,y⟩:=e;dsimp only at hp;subst hp;obtain⟨me,sp,R⟩:=st;dsimp only at hm hR;refine aA.pack tbl (aA.pack tbl ?_);refine aA.unpack tbl (.store t n ⟨me,sp,R⟩) 1 0 (dK t n ⟨me,sp,R⟩) [] rfl rfl rfl rfl ?_;refine aA.unpack tbl (.ensure t n ⟨4,sh,dn,x,y⟩) 0 1 (DU t n ⟨4,sh,dn,x,y⟩) [1] rfl rfl rfl rfl ?_;refine aIq t n me sp R sh dn x y s _ ?_;have ho:2*t<=y.i/\1<=y.l/\y.gs.length=y.j+y.l/\ -1000000<=List.getD y.gs (y.j+Int.toNat 0*1) 0/\List.getD y.gs (y.j+Int.toNat 0*1) 0<=1000000:=ho;refine⟨⟨⟨rfl,rfl,rfl,rfl,rfl,rfl,rfl,rfl,rfl⟩,ht,hn,hc,ho.1,⟨ho.2.1,ho.2.2.1⟩,ho.2.2.2⟩,?_⟩;unfold enF at hK;dsimp only at hK;cases h1:ieq ((y.l - 1:Nat):Int) 0 with
 | false=>
   rw [h1]at hK;exact gH (o:=⟨false,⟨4,sh,dn,x,{y with j:=y.j+1,l:=y.l - 1}⟩,⟨me,sp,R⟩,s.added (bQ n y.gs y.j) 1⟩) [0,1,2,3,4,5,6,7,8,9,10,11,12,13] hK rfl rfl
 | true=>
   rw [h1]at hK;exact gH (o:=⟨ieq (y.fs.length:Int) 0,⟨0,ieq (y.fs.length:Int) 0,true,x,y⟩,⟨me,sp,y.ks⟩,s.added (bQ n y.gs y.j) 1⟩) [0,1,2,3,8] hK rfl rfl
theorem en1(t n:Int)(e:ENS)(st:STS)(s:MS)(K:AVal->aC Ob->Prop)(hp:e.ph=1)(ok:L8 t n e st s)(hK:(enF t n e st s).left t n K):cT' 154 [.ptr 0 0,.ptr 2 0] (WV t n e st s) K:=by
 obtain⟨ht,hn,hc,hm,hR,ho⟩:=ok;obtain⟨ph,sh,dn,x,y⟩:=e;dsimp only at hp;subst hp;obtain⟨me,sp,R⟩:=st;dsimp only at hm hR;refine aA.pack tbl (aA.pack tbl ?_);refine aA.unpack tbl (.store t n ⟨me,sp,R⟩) 1 0 (dK t n ⟨me,sp,R⟩) [] rfl rfl rfl rfl ?_;refine aA.unpack tbl (.ensure t n ⟨1,sh,dn,x,y⟩) 0 1 (DU t n ⟨1,sh,dn,x,y⟩) [1] rfl rfl rfl rfl ?_;refine aIn t n me sp R sh dn x y s _ ?_;have ho:okAl n x:=ho;obtain⟨hg,ha,hl⟩:=ho;refine⟨⟨rfl,ht,hn,ha,hl,hc⟩,?_⟩;obtain⟨got,at',left,found,free⟩:=x;dsimp only at hg ha hl⊢;subst hg;have i0:ieq at' 0=false:=by rw [cI];simp;omega
 have i00:ieq 0 0=true:=rfl;rw [i0,i00];unfold enF rQ KQ at hK;dsimp only at hK;cases free with
 | false=>
   dsimp only [cond]at hK⊢;cases ho:oddB (aE s.xs (n+4+at'))with
   | false=>
     rw [ho]at hK;exact gH (o:=⟨false,⟨1,sh,dn,⟨0,at',left,aE s.xs (n+4+at'),true⟩,y⟩,⟨me,sp,R⟩,s.loadd (n+4+at')⟩) [0,1,2,3,4,5] hK rfl rfl
   | true=>
     rw [ho]at hK;dsimp only [cond]at hK⊢;cases hw:ile (left - 1) 0 with
     | false=>
       rw [hw]at hK;exact gH (o:=⟨false,⟨1,sh,dn,⟨0,cP n at',left - 1,aE s.xs (n+4+at'),false⟩,y⟩,⟨me,sp,R⟩,s.loadd (n+4+at')⟩) [0,1,2,3,4,5] hK rfl rfl
     | true=>
       rw [hw]at hK;cases dn with
       | true=>exact gH (o:=⟨true,⟨2,true,true,⟨0,cP n at',left - 1,aE s.xs (n+4+at'),false⟩,y⟩,⟨me,0,R⟩,s.loadd (n+4+at')⟩) [0,1,2,3,4,5,6] hK rfl rfl
       | false=>exact gH (o:=⟨ieq (R.length:Int) 0,⟨2,ieq (R.length:Int) 0,false,⟨0,cP n at',left - 1,aE s.xs (n+4+at'),false⟩,y⟩,⟨me,0,R⟩,s.loadd (n+4+at')⟩) [0,1,2,3,4,5,6] hK rfl rfl
 | true=>
   dsimp only [cond]at hK⊢;unfold MS.cased at hK;cases hb:bJ s.xs (n+4+at') found with
   | true=>
     rw [hb]at hK;exact gH (o:=⟨true,⟨1,sh,dn,⟨at',at',left,found,true⟩,y⟩,⟨me,at',R⟩,_⟩) [0,1,2,3,4,5] hK rfl rfl
   | false=>
     rw [hb]at hK;dsimp only [cond]at hK⊢;cases hw:ile (left - 1) 0 with
     | false=>
       rw [hw]at hK;exact gH (o:=⟨false,⟨1,sh,dn,⟨0,cP n at',left - 1,found,false⟩,y⟩,⟨me,sp,R⟩,_⟩) [0,1,2,3,4,5] hK rfl rfl
     | true=>
       rw [hw]at hK;cases dn with
       | true=>exact gH (o:=⟨true,⟨2,true,true,⟨0,cP n at',left - 1,found,false⟩,y⟩,⟨me,0,R⟩,_⟩) [0,1,2,3,4,5,6] hK rfl rfl
       | false=>exact gH (o:=⟨ieq (R.length:Int) 0,⟨2,ieq (R.length:Int) 0,false,⟨0,cP n at',left - 1,found,false⟩,y⟩,⟨me,0,R⟩,_⟩) [0,1,2,3,4,5,6] hK rfl rfl
theorem en0(t n:Int)(e:ENS)(st:STS)(s:MS)(K:AVal->aC Ob->Prop)(hp:e.ph=0)(ok:L8 t n e st s)(hK:(enF t n e st s).left t n K):cT' 154 [.ptr 0 0,.ptr 2 0] (WV t n e st s) K:=by
 obtain⟨ht,hn,hc,hm,hR,ho⟩:=ok;obtain⟨ph,sh,dn,x,y⟩:=e;dsimp only at hp;subst hp;obtain⟨me,sp,R⟩:=st;dsimp only at hm hR;refine aA.pack tbl (aA.pack tbl ?_);refine aA.unpack tbl (.store t n ⟨me,sp,R⟩) 1 0 (dK t n ⟨me,sp,R⟩) [] rfl rfl rfl rfl ?_;refine aA.unpack tbl (.ensure t n ⟨0,sh,dn,x,y⟩) 0 1 (DU t n ⟨0,sh,dn,x,y⟩) [1] rfl rfl rfl rfl ?_;refine aIm t n me sp R sh dn x y s _ ?_;unfold enF rQ KQ at hK;dsimp only at hK;cases hz:ieq sp 0 with
 | false=>
   rw [hz]at hK;exact⟨⟨rfl,by omega⟩,gH (o:=⟨true,⟨0,sh,dn,x,y⟩,⟨me,sp,R⟩,s.loadd 0⟩) [0,1,2,3,4] hK rfl rfl⟩
 | true=>
   rw [hz]at hK
   have ha:1<=at0 t n me/\at0 t n me<=n:=by
    unfold at0 bC;cases h1:(ile 1 (aO t n me))<;>cases h2:ile (aO t n me) n<;>simp only [Bool.and_true,Bool.and_false,Bool.and_self,cond_true,cond_false]<;>rw [bZ]at h1 h2<;>simp at h1 h2<;>omega
   refine⟨⟨by omega,by omega⟩,⟨trivial,trivial⟩,⟨rfl,ht,hn,ha,by omega,hc⟩,?_⟩
   show cond (oddB (aE s.xs (n+4+at0 t n me))) _ _;cases ho:oddB (aE s.xs (n+4+at0 t n me))with
   | false=>
     rw [ho]at hK;exact gH (o:=⟨false,⟨1,sh,dn,⟨0,at0 t n me,n,aE s.xs (n+4+at0 t n me),true⟩,y⟩,⟨me,sp,R⟩,s.loadd (n+4+at0 t n me)⟩) [0,1,2,3,4,5] hK rfl rfl
   | true=>
     rw [ho]at hK;dsimp only [cond]at hK⊢;cases hw:ile (n - 1) 0 with
     | false=>
       rw [hw]at hK;exact gH (o:=⟨false,⟨1,sh,dn,⟨0,cP n (at0 t n me),n - 1,aE s.xs (n+4+at0 t n me),false⟩,y⟩,⟨me,sp,R⟩,s.loadd (n+4+at0 t n me)⟩) [0,1,2,3,4,5] hK rfl rfl
     | true=>
       rw [hw]at hK;cases dn with
       | true=>exact gH (o:=⟨true,⟨2,true,true,⟨0,cP n (at0 t n me),n - 1,aE s.xs (n+4+at0 t n me),false⟩,y⟩,⟨me,0,R⟩,s.loadd (n+4+at0 t n me)⟩) [0,1,2,3,4,5,6] hK rfl rfl
       | false=>exact gH (o:=⟨ieq (R.length:Int) 0,⟨2,ieq (R.length:Int) 0,false,⟨0,cP n (at0 t n me),n - 1,aE s.xs (n+4+at0 t n me),false⟩,y⟩,⟨me,0,R⟩,s.loadd (n+4+at0 t n me)⟩) [0,1,2,3,4,5,6] hK rfl rfl
theorem H0(t n:Int)(e:ENS)(st:STS)(s:MS)(K:AVal->aC Ob->Prop)(ok:L8 t n e st s)(hK:(enF t n e st s).left t n K):cT' 154 [.ptr 0 0,.ptr 2 0] (WV t n e st s) K:=by
 match h:e.ph with
 | 0=>exact en0 t n e st s K h ok hK
 | 1=>exact en1 t n e st s K h ok hK
 | 2=>exact en2 t n e st s K h ok hK
 | 3=>exact en3 t n e st s K h ok hK
 | 4=>exact en4 t n e st s K h ok hK
 | k+5=>have:=ok.ho;unfold aHi at this;rw [h]at this;exact this.elim
noncomputable def enS:aH Ob:=fun args h=>match args,h with
 | [.ptr 0 0,.ptr 2 0],[some (.abs (.ensure t n e) [1]),some (.abs (.store t' n' st) []),e1,e2]=>(match cJ 3 [e1,e2]with
   | some (l,s)=>some (.pre ((l=s.xs.length/\t'=t/\n'=n)/\L8 t n e st s) (.ret (.bool (enF t n e st s).d) (WV t n (enF t n e st s).e (enF t n e st s).st (enF t n e st s).s)))
   | none=>none)
 | _,_=>none
theorem aGi:aH.ok E42.I Tryz.prog 154 enS:=by
 intro args h o ho K hK;unfold enS at ho;split at ho
 case h_2=>cases ho
 split at ho<;>cases ho
 rename_i hm;obtain⟨⟨⟨hl,ht',hn'⟩,ok⟩,hK⟩:=hK;have hh:=aZ hm hl;cases hh;subst ht' hn';exact H0 _ _ _ _ _ K ok hK
noncomputable def enE:=E42.addS 154 enS aGi
structure SO where
 d:Bool
 e:SWS
 st:STS
 s:MS
instance:Inhabited SO:=⟨⟨false,cX,⟨0,0,[]⟩,⟨0,0,[],0,0,0,0,0,false⟩⟩⟩
def swF(t n:Int)(y:SWS)(st:STS)(s:MS):SO:=match y.ph with
 | 0=>⟨false,{y with ph:=1,N:=st.R,m:=aT [] n 0 s,i:=1},st,s.loadd (bG n 0)⟩
 | 1=>(match ieq (y.i+1) (2*t),ieq ((aS (aT y.m n y.i s) y.N).length :Int) 0 with
   | true,true=>⟨true,{y with ph:=3},{st with R:=cF (aT y.m n y.i s) y.N},s.loadd (bG n y.i)⟩
   | true,false=>⟨false,⟨2,y.N,aT y.m n y.i s,y.i+1,cF (aT y.m n y.i s) y.N,aS (aT y.m n y.i s) y.N,aS (aT y.m n y.i s) y.N,0,(aS (aT y.m n y.i s) y.N).length⟩,st,s.loadd (bG n y.i)⟩
   | false,_=>⟨false,{y with m:=aT y.m n y.i s,i:=y.i+1},st,s.loadd (bG n y.i)⟩)
 | _=>(match ieq ((y.l - 1:Nat):Int) 0 with
   | true=>⟨true,{y with ph:=3},{st with R:=y.ks},s.added (bQ n y.gs y.j) 1⟩
   | false=>⟨false,{y with j:=y.j+1,l:=y.l - 1},st,s.added (bQ n y.gs y.j) 1⟩)
def aA6(t n:Int)(y:SWS):Prop:=match y.ph with
 | 0=>True
 | 1=>y.N.length<=1000000/\0<=y.i/\y.i<2*t
 | 2=>2*t<=y.i/\1<=y.l/\y.gs.length=y.j+y.l/\ -1000000<=List.getD y.gs (y.j+Int.toNat 0*1) 0/\List.getD y.gs (y.j+Int.toNat 0*1) 0<=1000000
 | _=>False
structure qQ (t n:Int) (y:SWS) (st:STS) (s:MS):Prop where
 ht:1<=t/\t<=1000
 hn:1<=n/\n<=1000
 hc:0<=s.c/\s.c<=1000000
 hR:st.R.length<=1000000
 ho:aA6 t n y
def swH(t n:Int)(y:SWS)(st:STS)(s:MS):aC Ob:=[some (.abs (.sweep t n y) [1]),some (.abs (.store t n st) []),aX 3 s,aY s]
def SO.left(o:SO)(t n:Int)(K:AVal->aC Ob->Prop):Prop:=K (.bool o.d) (swH t n o.e o.st o.s)
theorem xZ{K:AVal->aC Ob->Prop}{t n:Int}{o:SO}{g':aC Ob}(pl:List Nat)(hK:o.left t n K)
 (hb:(dO pl g'.length&&gO pl 0 4&&obOk 1 (ND t n o.e))=true)
 (hT:fZ pl g'=aP [some (.abs (.sweep t n o.e) [1]),some (.cells [.int .i64 t,.int .i64 n,.int .i64 o.st.me,.int .i64 o.st.sp,.slice 4 0 o.st.R.length 1]),aX 3 o.s,aY o.s,some (.ints (some .i64) o.st.R)] 0 1 (ND t n o.e) [1]):AB tbl 4 (AB tbl 4 K) (.bool o.d) g':=by
 simp only [Bool.and_eq_true]at hb;obtain⟨⟨b1,b2⟩,b3⟩:=hb;refine⟨pl,_,.sweep t n o.e,0,1,_,[1],?_,hT,rfl,rfl,⟨[0,1,2,3,4],[some (.abs (.sweep t n o.e) [1]),some (.abs (.store t n o.st) []),aX 3 o.s,aY o.s],.store t n o.st,1,0,dK t n o.st,[],rfl,rfl,rfl,rfl,?_⟩⟩
 ·rw [b1,b2,b3];rfl
 ·exact hK
def S5(t n me sp:Int)(R:List Int)(y:SWS)(s:MS)(K:AVal->aC Ob->Prop):Prop:=((lE' s.3/\lE' R)/\((1:Int)<=t/\t<=(1000:Int))/\((1:Int)<=n/\n<=(1000:Int))/\((0:Int)<=s.4/\s.4<=(1000000:Int))/\R.length<=(1000000:Nat))/\K (.bool false) [some (.cells [.ptr 1 0,.ptr 5 0]),some (.cells [.int .i64 t,.int .i64 n,.int .i64 me,.int .i64 sp,.slice 4 0 R.length 1]),some (.cells [.int .i64 s.1,.int .i64 s.2,.slice 3 0 s.3.length 1,.int .i64 (s.4+1),.int .i64 1,.int .i64 (bG n 0),.int .u64 (aE s.3 (bG n 0)),.int .u64 (aE s.3 (bG n 0)),.bool (dM s.3 (bG n 0))]),some (.ints (some .u64) s.3),some (.ints (some .i64) R),some (.cells [.int .i64 t,.int .i64 n,.raw (Value.slice none 0 0),.raw (Value.slice none 0 0),.slice 6 0 R.length 1,.map 7,.int .i64 1,.raw (Value.pointer none)]),some (.ints (some .i64) R),some (.imap .i64 none (aT [] n 0 s))]
theorem aIM(t n me sp:Int)(R:List Int)(y:SWS)(s:MS)(K:AVal->aC Ob->Prop)(hK:S5 t n me sp R y s K):cT' 169 [.ptr 0 0,.ptr 2 0] [some (.cells [.ptr 1 0,.raw (.pointer none)]),some (.cells [.int .i64 t,.int .i64 n,.int .i64 me,.int .i64 sp,.slice 4 0 R.length 1]),aX 3 s,aY s,some (.ints (some .i64) R)] K:=
 (jJ oF) _ _ _ (Ev.get (aK (p:=mW swStepS [.ptr 0 0,.ptr 2 0] [some (.cells [.ptr 1 0,.raw (.pointer none)]),some (.cells [.int .i64 t,.int .i64 n,.int .i64 me,.int .i64 sp,.slice 4 0 R.length 1]),aX 3 s,aY s,some (.ints (some .i64) R)] K) (q:=S5 t n me sp R y s K) (by kernel_rfl) hK))
def S6(t n me sp:Int)(R:List Int)(y:SWS)(s:MS)(K:AVal->aC Ob->Prop):Prop:=((lE' s.3/\lE' R/\lE' y.2/\t=t/\n=n)/\((1:Int)<=t/\t<=(1000:Int))/\((1:Int)<=n/\n<=(1000:Int))/\((0:Int)<=s.4/\s.4<=(1000000:Int))/\y.2.length<=(1000000:Nat)/\(0:Int)<=y.4/\y.4<(2:Int)*t)/\bif ieq (y.4+1) (2*t)then bif ieq (↑(List.length (aS (aT y.3 n y.4 s) y.2)):Int) 0 then K (.bool true) [some (.cells [.ptr 1 0,.ptr 5 0]),some (.cells [.int .i64 t,.int .i64 n,.int .i64 me,.int .i64 sp,.slice 8 0 (List.length (cF (aT y.3 n y.4 s) y.2)) 1]),some (.cells [.int .i64 s.1,.int .i64 s.2,.slice 3 0 s.3.length 1,.int .i64 (s.4+1),.int .i64 1,.int .i64 (bG n y.4),.int .u64 (aE s.3 (bG n y.4)),.int .u64 (aE s.3 (bG n y.4)),.bool (dM s.3 (bG n y.4))]),some (.ints (some .u64) s.3),some (.ints (some .i64) R),some (.cells [.int .i64 t,.int .i64 n,.slice 8 0 (List.length (cF (aT y.3 n y.4 s) y.2)) 1,.slice 9 0 (List.length (aS (aT y.3 n y.4 s) y.2)) 1,.slice 6 0 y.2.length 1,.map 7,.int .i64 (y.4+1),.ptr 10 0]),some (.ints (some .i64) y.2),some (.imap .i64 none (aT y.3 n y.4 s)),some (.ints (some .i64) (cF (aT y.3 n y.4 s) y.2)),some (.ints (some .i64) (aS (aT y.3 n y.4 s) y.2)),some (.cells [.int .i64 t,.int .i64 n,.slice 11 0 (List.length (aS (aT y.3 n y.4 s) y.2)) 1]),some (.ints (some .i64) (aS (aT y.3 n y.4 s) y.2))]else K (.bool false) [some (.cells [.ptr 1 0,.ptr 5 0]),some (.cells [.int .i64 t,.int .i64 n,.int .i64 me,.int .i64 sp,.slice 4 0 R.length 1]),some (.cells [.int .i64 s.1,.int .i64 s.2,.slice 3 0 s.3.length 1,.int .i64 (s.4+1),.int .i64 1,.int .i64 (bG n y.4),.int .u64 (aE s.3 (bG n y.4)),.int .u64 (aE s.3 (bG n y.4)),.bool (dM s.3 (bG n y.4))]),some (.ints (some .u64) s.3),some (.ints (some .i64) R),some (.cells [.int .i64 t,.int .i64 n,.slice 8 0 (List.length (cF (aT y.3 n y.4 s) y.2)) 1,.slice 9 0 (List.length (aS (aT y.3 n y.4 s) y.2)) 1,.slice 6 0 y.2.length 1,.map 7,.int .i64 (y.4+1),.ptr 10 0]),some (.ints (some .i64) y.2),some (.imap .i64 none (aT y.3 n y.4 s)),some (.ints (some .i64) (cF (aT y.3 n y.4 s) y.2)),some (.ints (some .i64) (aS (aT y.3 n y.4 s) y.2)),some (.cells [.int .i64 t,.int .i64 n,.slice 11 0 (List.length (aS (aT y.3 n y.4 s) y.2)) 1]),some (.ints (some .i64) (aS (aT y.3 n y.4 s) y.2))]else K (.bool false) [some (.cells [.ptr 1 0,.ptr 5 0]),some (.cells [.int .i64 t,.int .i64 n,.int .i64 me,.int .i64 sp,.slice 4 0 R.length 1]),some (.cells [.int .i64 s.1,.int .i64 s.2,.slice 3 0 s.3.length 1,.int .i64 (s.4+1),.int .i64 1,.int .i64 (bG n y.4),.int .u64 (aE s.3 (bG n y.4)),.int .u64 (aE s.3 (bG n y.4)),.bool (dM s.3 (bG n y.4))]),some (.ints (some .u64) s.3),some (.ints (some .i64) R),some (.cells [.int .i64 t,.int .i64 n,.raw (Value.slice none 0 0),.raw (Value.slice none 0 0),.slice 6 0 y.2.length 1,.map 7,.int .i64 (y.4+1),.raw (Value.pointer none)]),some (.ints (some .i64) y.2),some (.imap .i64 none (aT y.3 n y.4 s))]
theorem aIN(t n me sp:Int)(R:List Int)(y:SWS)(s:MS)(K:AVal->aC Ob->Prop)(hK:S6 t n me sp R y s K):cT' 169 [.ptr 0 0,.ptr 2 0] [some (.cells [.ptr 1 0,.ptr 5 0]),some (.cells [.int .i64 t,.int .i64 n,.int .i64 me,.int .i64 sp,.slice 4 0 R.length 1]),aX 3 s,aY s,some (.ints (some .i64) R),some (.cells [.int .i64 t,.int .i64 n,.raw (.slice none 0 0),.raw (.slice none 0 0),.slice 6 0 y.N.length 1,.map 7,.int .i64 y.i,.raw (.pointer none)]),some (.ints (some .i64) y.N),some (.imap .i64 none y.m)] K:=
 (jJ oF) _ _ _ (Ev.get (aK (p:=mW swStepS [.ptr 0 0,.ptr 2 0] [some (.cells [.ptr 1 0,.ptr 5 0]),some (.cells [.int .i64 t,.int .i64 n,.int .i64 me,.int .i64 sp,.slice 4 0 R.length 1]),aX 3 s,aY s,some (.ints (some .i64) R),some (.cells [.int .i64 t,.int .i64 n,.raw (.slice none 0 0),.raw (.slice none 0 0),.slice 6 0 y.N.length 1,.map 7,.int .i64 y.i,.raw (.pointer none)]),some (.ints (some .i64) y.N),some (.imap .i64 none y.m)] K) (q:=S6 t n me sp R y s K) (by kernel_rfl) hK))
def S7(t n me sp:Int)(R:List Int)(y:SWS)(s:MS)(K:AVal->aC Ob->Prop):Prop:=((lE' s.3/\lE' R/\lE' y.5/\lE' y.6/\lE' y.2/\t=t/\n=n/\t=t/\n=n)/\((1:Int)<=t/\t<=(1000:Int))/\((1:Int)<=n/\n<=(1000:Int))/\((0:Int)<=s.4/\s.4<=(1000000:Int))/\2*t<=y.4/\((1:Nat)<=y.9/\y.7.length=y.8+y.9)/\(-1000000:Int)<=List.getD y.7 (y.8+Int.toNat 0*1) 0/\List.getD y.7 (y.8+Int.toNat 0*1) (0:Int)<=(1000000:Int))/\bif ieq (↑(y.9 - 1):Int) 0 then K (.bool true) [some (.cells [.ptr 1 0,.ptr 5 0]),some (.cells [.int .i64 t,.int .i64 n,.int .i64 me,.int .i64 sp,.slice 6 0 y.5.length 1]),some (.cells [.int .i64 s.1,.int .i64 s.2,.slice 3 0 (List.length (bA s.3 (bQ n y.7 y.8) (WU (aE s.3 (bQ n y.7 y.8)+1)))) 1,.int .i64 (s.4+1),.int .i64 4,.int .i64 (bQ n y.7 y.8),.int .u64 (aE s.3 (bQ n y.7 y.8)),.int .u64 (bif dM s.3 (bQ n y.7 y.8)then WU (aE s.3 (bQ n y.7 y.8)+1)else 0),.bool (dM s.3 (bQ n y.7 y.8))]),some (.ints (some .u64) (bA s.3 (bQ n y.7 y.8) (WU (aE s.3 (bQ n y.7 y.8)+1)))),some (.ints (some .i64) R),some (.cells [.int .i64 t,.int .i64 n,.slice 6 0 y.5.length 1,.slice 7 0 y.6.length 1,.slice 8 0 y.2.length 1,.map 9,.int .i64 y.4,.ptr 10 0]),some (.ints (some .i64) y.5),some (.ints (some .i64) y.6),some (.ints (some .i64) y.2),some (.imap .i64 none y.3),some (.cells [.int .i64 t,.int .i64 n,.slice 11 (y.8+1) (y.9 - 1) 1]),some (.ints (some .i64) y.7)]else K (.bool false) [some (.cells [.ptr 1 0,.ptr 5 0]),some (.cells [.int .i64 t,.int .i64 n,.int .i64 me,.int .i64 sp,.slice 4 0 R.length 1]),some (.cells [.int .i64 s.1,.int .i64 s.2,.slice 3 0 (List.length (bA s.3 (bQ n y.7 y.8) (WU (aE s.3 (bQ n y.7 y.8)+1)))) 1,.int .i64 (s.4+1),.int .i64 4,.int .i64 (bQ n y.7 y.8),.int .u64 (aE s.3 (bQ n y.7 y.8)),.int .u64 (bif dM s.3 (bQ n y.7 y.8)then WU (aE s.3 (bQ n y.7 y.8)+1)else 0),.bool (dM s.3 (bQ n y.7 y.8))]),some (.ints (some .u64) (bA s.3 (bQ n y.7 y.8) (WU (aE s.3 (bQ n y.7 y.8)+1)))),some (.ints (some .i64) R),some (.cells [.int .i64 t,.int .i64 n,.slice 6 0 y.5.length 1,.slice 7 0 y.6.length 1,.slice 8 0 y.2.length 1,.map 9,.int .i64 y.4,.ptr 10 0]),some (.ints (some .i64) y.5),some (.ints (some .i64) y.6),some (.ints (some .i64) y.2),some (.imap .i64 none y.3),some (.cells [.int .i64 t,.int .i64 n,.slice 11 (y.8+1) (y.9 - 1) 1]),some (.ints (some .i64) y.7)]
theorem aIO(t n me sp:Int)(R:List Int)(y:SWS)(s:MS)(K:AVal->aC Ob->Prop)(hK:S7 t n me sp R y s K):cT' 169 [.ptr 0 0,.ptr 2 0] [some (.cells [.ptr 1 0,.ptr 5 0]),some (.cells [.int .i64 t,.int .i64 n,.int .i64 me,.int .i64 sp,.slice 4 0 R.length 1]),aX 3 s,aY s,some (.ints (some .i64) R),some (.cells [.int .i64 t,.int .i64 n,.slice 6 0 y.ks.length 1,.slice 7 0 y.fs.length 1,.slice 8 0 y.N.length 1,.map 9,.int .i64 y.i,.ptr 10 0]),some (.ints (some .i64) y.ks),some (.ints (some .i64) y.fs),some (.ints (some .i64) y.N),some (.imap .i64 none y.m),some (.cells [.int .i64 t,.int .i64 n,.slice 11 y.j y.l 1]),some (.ints (some .i64) y.gs)] K:=
 (jJ oF) _ _ _ (Ev.get (aK (p:=mW swStepS [.ptr 0 0,.ptr 2 0] [some (.cells [.ptr 1 0,.ptr 5 0]),some (.cells [.int .i64 t,.int .i64 n,.int .i64 me,.int .i64 sp,.slice 4 0 R.length 1]),aX 3 s,aY s,some (.ints (some .i64) R),some (.cells [.int .i64 t,.int .i64 n,.slice 6 0 y.ks.length 1,.slice 7 0 y.fs.length 1,.slice 8 0 y.N.length 1,.map 9,.int .i64 y.i,.ptr 10 0]),some (.ints (some .i64) y.ks),some (.ints (some .i64) y.fs),some (.ints (some .i64) y.N),some (.imap .i64 none y.m),some (.cells [.int .i64 t,.int .i64 n,.slice 11 y.j y.l 1]),some (.ints (some .i64) y.gs)] K) (q:=S7 t n me sp R y s K) (by kernel_rfl) hK))
theorem wc{x y:Option (aG Ob)}{g g2:aC Ob}(h:oV x y)(k:lQ g g2):lQ (x::g) (y::g2):=⟨h,k⟩
theorem wv{v w:AVal}{vs ws:List AVal}(h:w=v\/w=.O)(k:nV vs ws):nV (v::vs) (w::ws):=⟨h,k⟩
theorem aIS:nV [] []:=trivial
theorem aHv{vs ws:List AVal}(h:nV vs ws):oV (some (.cells vs):Option (aG Ob)) (some (.cells ws)):=h
theorem wvs: ∀vs:List AVal,nV vs vs
 | []=>trivial
 | v::vs=>⟨.inl rfl,wvs vs⟩
theorem aHC: ∀x:Option (aG Ob),oV x x
 | none=>trivial
 | some (.cells vs)=>wvs vs
 | some (.ints c xs)=>rfl
 | some (.abs t ps)=>rfl
 | some (.tab ks r)=>rfl
 | some (.imap k v m)=>rfl
 | some (.iter _ _ _ _ _ _)=>rfl
theorem HM: ∀g:aC Ob,lQ g g
 | []=>trivial
 | x::g=>⟨aHC x,HM g⟩
theorem tW{K:AVal->aC Ob->Prop}{v:AVal}{g:aC Ob}(h:K v g):NV K v g:=⟨g,HM g,h⟩
theorem CR{K:AVal->aC Ob->Prop}{v a b:AVal}{g:aC Ob}(h:K v (some (.cells [a,.O])::g)):NV K v (some (.cells [a,b])::g):=⟨_,wc (aHv (wv (.inl rfl) (wv (.inr rfl) aIS))) (HM g),h⟩
theorem sw0(t n:Int)(y:SWS)(st:STS)(s:MS)(K:AVal->aC Ob->Prop)(hp:y.ph=0)(ok:qQ t n y st s)(hK:(swF t n y st s).left t n K):cT' 169 [.ptr 0 0,.ptr 2 0] (swH t n y st s) K:=by
 obtain⟨ht,hn,hc,hR,ho⟩:=ok;obtain⟨ph,N,m,i,ks,fs,gs,j,l⟩:=y;dsimp only at hp;subst hp;obtain⟨me,sp,R⟩:=st;dsimp only at hR;refine aA.pack tbl (aA.pack tbl (aKR ?_));refine aA.unpack tbl (.store t n ⟨me,sp,R⟩) 1 0 (dK t n ⟨me,sp,R⟩) [] rfl rfl rfl rfl ?_;refine aA.unpack tbl (.sweep t n ⟨0,N,m,i,ks,fs,gs,j,l⟩) 0 1 (ND t n ⟨0,N,m,i,ks,fs,gs,j,l⟩) [1] rfl rfl rfl rfl ?_;refine aIM t n me sp R ⟨0,N,m,i,ks,fs,gs,j,l⟩ s _ ?_;unfold S5;exact⟨⟨⟨rfl,rfl⟩,ht,hn,hc,hR⟩,tW (xZ (o:=swF t n ⟨0,N,m,i,ks,fs,gs,j,l⟩ ⟨me,sp,R⟩ s) [0,1,2,3,4,5,6,7] hK rfl rfl)⟩
theorem sw1(t n:Int)(y:SWS)(st:STS)(s:MS)(K:AVal->aC Ob->Prop)(hp:y.ph=1)(ok:qQ t n y st s)(hK:(swF t n y st s).left t n K):cT' 169 [.ptr 0 0,.ptr 2 0] (swH t n y st s) K:=by
 obtain⟨ht,hn,hc,hR,ho⟩:=ok;obtain⟨ph,N,m,i,ks,fs,gs,j,l⟩:=y;dsimp only at hp;subst hp;obtain⟨me,sp,R⟩:=st;dsimp only at hR;refine aA.pack tbl (aA.pack tbl (aKR ?_));refine aA.unpack tbl (.store t n ⟨me,sp,R⟩) 1 0 (dK t n ⟨me,sp,R⟩) [] rfl rfl rfl rfl ?_;refine aA.unpack tbl (.sweep t n ⟨1,N,m,i,ks,fs,gs,j,l⟩) 0 1 (ND t n ⟨1,N,m,i,ks,fs,gs,j,l⟩) [1] rfl rfl rfl rfl ?_;refine aIN t n me sp R ⟨1,N,m,i,ks,fs,gs,j,l⟩ s _ ?_;unfold S6;have ho:N.length<=1000000/\0<=i/\i<2*t:=ho;refine⟨⟨⟨rfl,rfl,rfl,rfl,rfl⟩,ht,hn,hc,ho.1,ho.2⟩,?_⟩;unfold swF at hK;dsimp only at hK⊢;cases h1:ieq (i+1) (2*t)with
 | false=>
   rw [h1]at hK;exact tW (xZ (o:=⟨false,⟨1,N,aT m n i s,i+1,ks,fs,gs,j,l⟩,⟨me,sp,R⟩,s.loadd (bG n i)⟩) [0,1,2,3,4,5,6,7] hK rfl rfl)
 | true=>
   rw [h1]at hK;cases h2:ieq ((aS (aT m n i s) N).length :Int) 0 with
   | true=>
     rw [h2]at hK;exact CR (xZ (o:=⟨true,⟨3,N,m,i,ks,fs,gs,j,l⟩,⟨me,sp,cF (aT m n i s) N⟩,s.loadd (bG n i)⟩) [0,1,2,3,8] hK rfl rfl)
   | false=>
     rw [h2]at hK;exact tW (xZ (o:=⟨false,⟨2,N,aT m n i s,i+1,cF (aT m n i s) N,aS (aT m n i s) N,aS (aT m n i s) N,0,(aS (aT m n i s) N).length⟩,⟨me,sp,R⟩,s.loadd (bG n i)⟩) [0,1,2,3,4,5,8,9,6,7,10,11] hK rfl rfl)
theorem sw2(t n:Int)(y:SWS)(st:STS)(s:MS)(K:AVal->aC Ob->Prop)(hp:y.ph=2)(ok:qQ t n y st s)(hK:(swF t n y st s).left t n K):cT' 169 [.ptr 0 0,.ptr 2 0] (swH t n y st s) K:=by
 obtain⟨ht,hn,hc,hR,ho⟩:=ok;obtain⟨ph,N,m,i,ks,fs,gs,j,l⟩:=y;dsimp only at hp;subst hp;obtain⟨me,sp,R⟩:=st;dsimp only at hR;refine aA.pack tbl (aA.pack tbl (aKR ?_));refine aA.unpack tbl (.store t n ⟨me,sp,R⟩) 1 0 (dK t n ⟨me,sp,R⟩) [] rfl rfl rfl rfl ?_;refine aA.unpack tbl (.sweep t n ⟨2,N,m,i,ks,fs,gs,j,l⟩) 0 1 (ND t n ⟨2,N,m,i,ks,fs,gs,j,l⟩) [1] rfl rfl rfl rfl ?_;refine aIO t n me sp R ⟨2,N,m,i,ks,fs,gs,j,l⟩ s _ ?_;unfold S7;have ho:2*t<=i/\1<=l/\gs.length=j+l/\ -1000000<=List.getD gs (j+Int.toNat 0*1) 0/\List.getD gs (j+Int.toNat 0*1) 0<=1000000:=ho;refine⟨⟨⟨rfl,rfl,rfl,rfl,rfl,rfl,rfl,rfl,rfl⟩,ht,hn,hc,ho.1,⟨ho.2.1,ho.2.2.1⟩,ho.2.2.2⟩,?_⟩;unfold swF at hK;dsimp only at hK⊢;cases h1:ieq ((l - 1:Nat):Int) 0 with
 | false=>
   rw [h1]at hK;exact tW (xZ (o:=⟨false,⟨2,N,m,i,ks,fs,gs,j+1,l - 1⟩,⟨me,sp,R⟩,s.added (bQ n gs j) 1⟩) [0,1,2,3,4,5,6,7,8,9,10,11] hK rfl rfl)
 | true=>
   rw [h1]at hK;exact CR (xZ (o:=⟨true,⟨3,N,m,i,ks,fs,gs,j,l⟩,⟨me,sp,ks⟩,s.added (bQ n gs j) 1⟩) [0,1,2,3,6] hK rfl rfl)
theorem Z8(t n:Int)(y:SWS)(st:STS)(s:MS)(K:AVal->aC Ob->Prop)(ok:qQ t n y st s)(hK:(swF t n y st s).left t n K):cT' 169 [.ptr 0 0,.ptr 2 0] (swH t n y st s) K:=by
 match h:y.ph with
 | 0=>exact sw0 t n y st s K h ok hK
 | 1=>exact sw1 t n y st s K h ok hK
 | 2=>exact sw2 t n y st s K h ok hK
 | k+3=>have:=ok.ho;unfold aA6 at this;rw [h]at this;exact this.elim
theorem fC{I:Itp Ob}{n:Nat}{K:AVal->aC Ob->Prop}{d:Bool}{a b g:aC Ob}(hK:(Out.ite d (.ret (.bool true) a) (.ret (.bool false) b)).run K)(h1:K (.bool true) a->cO I n K (.bool true) g)(h2:d=false->K (.bool false) b->cO I n K (.bool false) g):cO I n K (.bool d) g:=by
 cases d with
 | true=>exact h1 hK
 | false=>exact h2 rfl hK
theorem tkP{n:Nat}{v:AVal}{g h2:aC Ob}{K:AVal->aC Ob->Prop}(h:K v h2)(t:Ob)(l np:Nat)(e:aC Ob)(ps:List Nat)(hg:g=aP h2 l np e ps:=by kernel_rfl)(hl:aL h2 l=some (.abs t ps):=by exact rfl)(ht:tbl t=(np,e):=by exact rfl)
 (hb:(Nat.ble n h2.length&&obOk np e&&iU h2 l ps&&v.within (upto 0 h2.length)&&Nat.beq ps.length np)=true:=by kernel_rfl):cO (obI tbl) n K v g:=⟨⟨_,_,aF.pack h2 t l np e ps hg hl ht hb,h⟩⟩
theorem wJ{n:Nat}{v:AVal}{g h2 e1:aC Ob}{t1:Ob}{np1:Nat}{K:AVal->aC Ob->Prop}(h:K v h2)(t:Ob)(l np:Nat)(e:aC Ob)(ps:List Nat)(l1:Nat)(ps1:List Nat)(hl1:aL h2 l1=some (.abs t1 ps1))(ht1:tbl t1=(np1,e1))
 (hg:g=aP (aP h2 l1 np1 e1 ps1) l np e ps:=by kernel_rfl) (hl:aL (aP h2 l1 np1 e1 ps1) l=some (.abs t ps):=by exact rfl) (ht:tbl t=(np,e):=by exact rfl)
 (hb:(Nat.ble n (aP h2 l1 np1 e1 ps1).length &&obOk np e&&iU (aP h2 l1 np1 e1 ps1) l ps&&v.within (upto 0 (aP h2 l1 np1 e1 ps1).length)&&Nat.beq ps.length np)=true:=by kernel_rfl)
 (hb1:(Nat.ble n h2.length&&obOk np1 e1&&iU h2 l1 ps1&&v.within (upto 0 h2.length)&&Nat.beq ps1.length np1)=true:=by kernel_rfl):cO (obI tbl) n K v g:=⟨⟨_,_,(aF.pack _ t l np e ps hg hl ht hb).trans (aF.pack h2 t1 l1 np1 e1 ps1 rfl hl1 ht1 hb1),h⟩⟩
theorem DM{n:Nat}{v:AVal}{g h2:aC Ob}{K:AVal->aC Ob->Prop}(h:K v h2)(pos pl:List Nat)(t:Ob)(l np:Nat)(e:aC Ob)(ps:List Nat)(hp:(dO pl (aAd g 0 pos).length &&gO pl 0 n)=true:=by exact rfl)(hv:kI pl v=v:=by kernel_rfl)(hg:fZ pl (aAd g 0 pos)=aP h2 l np e ps:=by kernel_rfl)(hl:aL h2 l=some (.abs t ps):=by exact rfl)(ht:tbl t=(np,e):=by exact rfl)
 (hb:(Nat.ble n h2.length&&obOk np e&&iU h2 l ps&&v.within (upto 0 h2.length)&&Nat.beq ps.length np)=true:=by kernel_rfl):cO (obI tbl) n K v g:=⟨⟨_,_,(aF.weak (d5 g 0 pos)).trans ((aF.pick pl hp).trans ((aJ8 hv hg).trans (aF.pack h2 t l np e ps rfl hl ht hb))),h⟩⟩
abbrev gW(l:Nat)(t n:Int)(st:STS):Option (aG Mc):=some (.cells [.I t,.I n,.I st.me,.I st.sp,.slice l 0 st.R.length 1])
abbrev gX(st:STS):Option (aG Mc):=some (.ints (some .i64) st.R)
def lB(w:Nat)(h:aC Ob):Option (Nat×Int×Int×STS):=match h with
 | [some (.cells [.int .i64 t,.int .i64 n,.int .i64 me,.int .i64 sp,.slice l 0 len 1]),some (.ints (some .i64) xs)]=>if l=w then some (len,t,n,⟨me,sp,xs⟩)else none
 | _=>none
theorem b9{w:Nat}{h:aC Ob}{l:Nat}{t n:Int}{st:STS}(e:lB w h=some (l,t,n,st))(hl:l=st.R.length):h=[gW w t n st,gX st]:=by
 unfold lB at e;split at e
 ·split at e
  ·rename_i hw;simp only [sI',pI']at e;obtain⟨rfl,rfl,rfl,rfl⟩:=e;subst hw;simp only at hl;subst hl;rfl
  ·cases e
 ·cases e
theorem jQ{f:FuncId}{t n:Int}{st st':STS}{s s':MS}{M:Mc}{e1 e2:aG Mc}{d:Bool}(h1: ∀ι:Nat->Nat,ι 1=1->e1.ren ι=e1)(h2: ∀ι:Nat->Nat,ι 1=1->e2.ren ι=e2)
 (hA: ∀K,(Out.ite d (.ret (.bool true) [some e1,some (.abs (.store t n st') []),aX 3 s',aY s']) (.ret (.bool false) [some e2,some (.abs (.store t n st') []),aX 3 s',aY s'])).run K->cT' f [.ptr 0 0,.ptr 2 0] [some (.abs M [1]),some (.abs (.store t n st) []),aX 3 s,aY s] K)
 (K:AVal->aC Ob->Prop) (hK:(Out.ite d (.ret (.bool true) [some e1,gW 5 t n st',none,aX 4 s',aY s',gX st']) (.ret (.bool false) [some e2,gW 5 t n st',none,aX 4 s',aY s',gX st'])).run K):
 cT' f [.ptr 0 0,.ptr 3 0] [some (.abs M [1]),gW 2 t n st,gX st,aX 4 s,aY s] K:=by
 refine aJ9 ?_;refine aKH (h0:=[some (.abs M [1]),gW 4 t n st,aX 3 s,aY s,gX st]) (args0:=[.ptr 0 0,.ptr 2 0]) (K0:=fun v g=>cO (obI tbl) 5 K (v.ren (iota [0,1,3,4,2] 5)) (oQ [some (.abs M [1]),gW 2 t n st,gX st,aX 4 s,aY s] [0,1,3,4,2] g)) ?_ [0,1,3,4,2] rfl (by decide) (by intro l hl;simp at hl⊢;omega) ?_ rfl (fun v g hk _=>hk)
 ·refine aA.shut tbl [some (.abs M [1]),some (.abs (.store t n st) []),aX 3 s,aY s] (.store t n st) 1 0 (dK t n st) [] (by kernel_rfl) rfl rfl (by kernel_rfl) (hA _ ?_)
  have i1:farI 4 1 1=1:=rfl;have i2:iota [0,1,3,4,2] 5 1=1:=rfl;cases d with
  | true=>
    have q1:((e1.ren (farI 4 1)).ren (iota [0,1,3,4,2] 5))=e1:=by rw [h1 _ i1,h1 _ i2]
    refine⟨_,_,aF.trans (aJ8 (g2:=[some e1,some (.abs (.store t n st') []),none,aX 4 s',aY s']) (by kernel_rfl) ?_) (aF.unpack (.store t n st') 1 0 (dK t n st') [] rfl rfl rfl rfl),hK⟩
    show [some ((e1.ren (farI 4 1)).ren (iota [0,1,3,4,2] 5)),_,_,_,_]=_;rw [q1];rfl
  | false=>
    have q2:((e2.ren (farI 4 1)).ren (iota [0,1,3,4,2] 5))=e2:=by rw [h2 _ i1,h2 _ i2]
    refine⟨_,_,aF.trans (aJ8 (g2:=[some e2,some (.abs (.store t n st') []),none,aX 4 s',aY s']) (by kernel_rfl) ?_) (aF.unpack (.store t n st') 1 0 (dK t n st') [] rfl rfl rfl rfl),hK⟩
    show [some ((e2.ren (farI 4 1)).ren (iota [0,1,3,4,2] 5)),_,_,_,_]=_;rw [q2];rfl
 ·intro i l hi
  match i,hi with
  | 0,hi=>cases hi;rfl
  | 1,hi=>cases hi;rfl
  | 2,hi=>cases hi;rfl
  | 3,hi=>cases hi;rfl
  | 4,hi=>cases hi;rfl
  | _+5,hi=>cases hi
def fT(kd:Int):Bool:=ieq kd 1||ieq kd 4
def oR(sh kd:Int):Bool:=ieq kd 5&&ieq sh 4
def vD(sh kd:Int):Bool:=ieq kd 2||ieq kd 5&&ieq sh 3
def gS(ky curr cw:Int):Bool:=bif ieq curr 0 then false else ieq (aB cw 0 10) ky
def fA(sh ky:Int):Int:=bif ieq sh 2 then ky%4 else 0
def l8(sh kd ky:Int):Int:=bif ieq sh 2 then ky else bif ieq sh 1 then ky else bif ieq sh 3 then(bif fT kd then 1024 else -1)else -1
def QM:bE Ob:=fun args h=>match args,h with
 | [.agg [.int .i64 t,.int .i64 n],.int .i64 a],[]=>some ((0<=n/\n<=100000)/\(-1000000<=a/\a<=1000000),.I (n+1+a))
 | _,_=>none
theorem YM:sT' 112 QM.spec:=by
 intro args h o ho K hK;unfold bE.spec QM at ho;split at ho
 case h_2=>cases ho
 rename_i p v hp;split at hp
 case h_2=>cases hp
 rename_i t n a;cases hp;simp only [sI']at ho;subst ho;obtain⟨hp,hK⟩:=hK;have hK:K (.I (n+1+a)) []:=hK;refine aJ1 (cM' (E:=enE) (q:=K (.I (W (W (1+n)+a))) []) (by kernel_rfl) ?_)
 simp(disch:=omega) only [W,cH]
 refine cast (congrArg (fun z=>K (AVal.int .i64 z) []) ?_) hK;omega
def HK:bE Ob:=fun args h=>match args,h with
 | [.agg [.int .i64 k,.int .i64 y,.bool m,.int .i64 c,.int .i64 v]],[]=>some (0<=v/\v<=1000000,.agg [.I k,.I y,.bool m,.I 0,.I (aW v)])
 | _,_=>none
theorem TM:sT' 264 HK.spec:=by
 intro args h o ho K hK;unfold bE.spec HK at ho;split at ho
 case h_2=>cases ho
 rename_i p v hp;split at hp
 case h_2=>cases hp
 rename_i k y m c v;cases hp;simp only [sI']at ho;subst ho;obtain⟨hp,hK⟩:=hK;have hK:K (.agg [.I k,.I y,.bool m,.I 0,.I (aW v)]) []:=hK;refine aJ1 (cM' (E:=enE) (q:=K (.agg [.I k,.I y,.bool m,.I 0,.I (W (↑(BitVec.toNat (BitVec.ofInt (IntKind.bits .i64) (W (v+1))&&&BitVec.ofInt (IntKind.bits .i64) 262143)):Int))]) []) (by kernel_rfl) ?_)
 refine cast (congrArg (fun z=>K (.agg [.I k,.I y,.bool m,.I 0,.I z]) []) ?_) hK;show aW v=_;have hb:IntKind.bits .i64 =64:=rfl;simp only [W];rw [hb,cH (x:=v+1) (by omega)]
 have:=jS (n:=64) (w:=18) (v+1) (by omega)
 have e:(2:Int)^18 - 1=262143:=by decide
 rw [e]at this;rw [this];have e2:(2:Int)^18=262144:=by decide
 rw [e2,cH (by omega)]
 rfl
def zZ:bE Ob:=fun args h=>match args,h with
 | [.agg [.int .i64 k,.int .i64 y,.bool m,.int .i64 c,.int .i64 v],.int .i64 b,.int .i64 x,.bool q],[]=>some (-1000000<=b/\b<=1000000,.agg [.I k,.I x,.bool q,.I (b+1),.I v])
 | _,_=>none
theorem NL:sT' 268 zZ.spec:=by
 intro args h o ho K hK;unfold bE.spec zZ at ho;split at ho
 case h_2=>cases ho
 rename_i p v hp;split at hp
 case h_2=>cases hp
 rename_i k y m c v b x q;cases hp;simp only [sI']at ho;subst ho;obtain⟨hp,hK⟩:=hK;have hK:K (.agg [.I k,.I x,.bool q,.I (b+1),.I v]) []:=hK;refine aJ1 (cM' (E:=enE) (q:=K (.agg [.I k,.I x,.bool q,.I (W (b+1)),.I v]) []) (by kernel_rfl) ?_)
 rw [yC (by omega)]
 exact hK
def zS:bE Ob:=fun args h=>match args,h with
 | [.agg [.int .i64 sh,.int .i64 kd,.int .i64 ky]],[]=>some (True,.bool (fT kd))
 | _,_=>none
theorem NG:sT' 203 zS.spec:=by
 intro args h o ho K hK;unfold bE.spec zS at ho;split at ho
 case h_2=>cases ho
 rename_i p v hp;split at hp
 case h_2=>cases hp
 rename_i sh kd ky;cases hp;simp only [sI']at ho;subst ho;obtain⟨hp,hK⟩:=hK;have hK:K (.bool (fT kd)) []:=hK;refine aJ1 (cM' (E:=enE) (q:=bif ieq kd 1 then K (.bool true) []else K (.bool (ieq kd 4)) []) (by kernel_rfl) ?_)
 unfold fT at hK;cases h:ieq kd 1<;>rw [h]at hK<;>exact hK
def HJ:bE Ob:=fun args h=>match args,h with
 | [.agg [.int .i64 sh,.int .i64 kd,.int .i64 ky]],[]=>some (True,.bool (oR sh kd))
 | _,_=>none
theorem TF:sT' 285 HJ.spec:=by
 intro args h o ho K hK;unfold bE.spec HJ at ho;split at ho
 case h_2=>cases ho
 rename_i p v hp;split at hp
 case h_2=>cases hp
 rename_i sh kd ky;cases hp;simp only [sI']at ho;subst ho;obtain⟨hp,hK⟩:=hK;have hK:K (.bool (oR sh kd)) []:=hK;refine aJ1 (cM' (E:=enE) (q:=bif ieq kd 5 then K (.bool (ieq sh 4)) []else K (.bool false) []) (by kernel_rfl) ?_)
 unfold oR at hK;cases h:ieq kd 5<;>rw [h]at hK<;>exact hK
def zT:bE Ob:=fun args h=>match args,h with
 | [.agg [.int .i64 sh,.int .i64 kd,.int .i64 ky]],[]=>some (True,.bool (vD sh kd))
 | _,_=>none
theorem NH:sT' 225 zT.spec:=by
 intro args h o ho K hK;unfold bE.spec zT at ho;split at ho
 case h_2=>cases ho
 rename_i p v hp;split at hp
 case h_2=>cases hp
 rename_i sh kd ky;cases hp;simp only [sI']at ho;subst ho;obtain⟨hp,hK⟩:=hK;have hK:K (.bool (vD sh kd)) []:=hK;refine aJ1 (cM' (E:=enE) (q:=bif ieq kd 2 then K (.bool true) []else bif ieq kd 5 then K (.bool (ieq sh 3)) []else K (.bool false) []) (by kernel_rfl) ?_)
 unfold vD at hK;cases h:ieq kd 2<;>cases h2:ieq kd 5<;>rw [h]at hK<;>rw [h2]at hK<;>exact hK
noncomputable def hasCS:aH Ob:=pZ [(.slot 0,.ints (some .i64))] XU.spec
theorem XT:sT' 138 hasCS:=sJ P9
noncomputable def EB0:=((((((enE.addS 138 hasCS XT).addR 112 QM YM).addR 264 HK TM).addR 268 zZ NL).addR 203 zS NG).addR 285 HJ TF).addR 225 zT NH
def isS:aH Ob:=fun args h=>match args,h with
 | [.agg [.int .i64 a,.int .i64 b,.int .i64 c,.int .i64 d,.bool m,.int .i64 e,.int .i64 f],.slice 0 0 1 1],[some (.cells [.int .i64 s])]=>some (.ret (.bool (hasB [s] e)) [some (.ints (some .i64) [s])])
 | _,_=>none
theorem aGZ:sT' 243 isS:=by
 intro args h o ho K hK;unfold isS at ho;split at ho<;>cases ho
 rename_i a b c d m e f s;have hK:K (.bool (hasB [s] e)) [some (.ints (some .i64) [s])]:=hK;refine aJ1 (cM' (E:=EB0) (q:=(1=1/\(1:Nat)<=(4294967296:Nat))/\K (.bool (hasB [s] e)) [some (.ints (some .i64) [s])]) (by kernel_rfl) ?_)
 exact⟨⟨rfl,by omega⟩,hK⟩
noncomputable def EB0b:=EB0.addS 243 isS aGZ
def O1:bE Ob:=fun args h=>match args,h with
 | [.int .u64 x],[]=>some (True,.I (aB x 20 5 - 1))
 | _,_=>none
theorem VN:sT' 260 O1.spec:=by
 intro args h o ho K hK;unfold bE.spec O1 at ho;split at ho
 case h_2=>cases ho
 rename_i p v hp;split at hp
 case h_2=>cases hp
 rename_i x;cases hp;simp only [sI']at ho;subst ho;obtain⟨hp,hK⟩:=hK;have hK:K (.I (aB x 20 5 - 1)) []:=hK;refine aJ1 (cM' (E:=EB0b) (q:=True/\K (.I (W (aB x 20 5 - 1))) []) (by kernel_rfl) ?_)
 have hb:0<=aB x 20 5/\aB x 20 5<32:=by
  unfold aB;have e:(2:Int)^(5:Int).toNat =32:=by decide
  rw [e];exact⟨Int.emod_nonneg _ (by decide),Int.emod_lt_of_pos _ (by decide)⟩
 have e1:W (aB x 20 5 - 1)=aB x 20 5 - 1:=cH (by omega)
 rw [e1];exact⟨trivial,hK⟩
def FK:bE Ob:=fun args h=>match args,h with
 | [.agg [.int .i64 a,.int .i64 b,.int .i64 c,.int .i64 d,.bool m,.int .i64 e,.int .i64 f],.int .i64 g],[]=>some (True,.agg [.I a,.I b,.I c,.I d,.bool m,.I g,.I f])
 | _,_=>none
theorem PB:sT' 262 FK.spec:=by
 intro args h o ho K hK;unfold bE.spec FK at ho;split at ho
 case h_2=>cases ho
 rename_i p v hp;split at hp
 case h_2=>cases hp
 rename_i a b c d m e f g;cases hp;simp only [sI']at ho;subst ho;obtain⟨hp,hK⟩:=hK;have hK:K (.agg [.I a,.I b,.I c,.I d,.bool m,.I g,.I f]) []:=hK;refine aJ1 (cM' (E:=EB0b) (q:=K (.agg [.I a,.I b,.I c,.I d,.bool m,.I g,.I f]) []) (by kernel_rfl) ?_)
 exact hK
noncomputable def EB0c:=(EB0b.addR 260 O1 VN).addR 262 FK PB
def zW:bE Ob:=fun args h=>match args,h with
 | [.agg [.int .i64 sh,.int .i64 kd,.int .i64 ky]],[]=>some (True,.agg [.I (fA sh ky),.I (l8 sh kd ky)])
 | _,_=>none
theorem NJ:sT' 226 zW.spec:=by
 intro args h o ho K hK;unfold bE.spec zW at ho;split at ho
 case h_2=>cases ho
 rename_i p v hp;split at hp
 case h_2=>cases hp
 rename_i sh kd ky;cases hp;simp only [sI']at ho;subst ho;obtain⟨hp,hK⟩:=hK;have hK:K (.agg [.I (fA sh ky),.I (l8 sh kd ky)]) []:=hK;refine aJ1 (cM' (E:=EB0c) (q:=bif ieq sh 2 then K (.agg [.I (W (↑(BitVec.toNat (BitVec.ofInt (IntKind.bits .i64) ky&&&BitVec.ofInt (IntKind.bits .i64) 3)):Int)),.I ky]) []else bif ieq sh 1 then K (.agg [.I 0,.I ky]) []else bif ieq sh 2 then K (.agg [.I 0,.I ky]) []else bif ieq sh 3 then True/\bif fT kd then K (.agg [.I 0,.I 1024]) []else K (.agg [.I 0,.I (-1:Int)]) []else K (.agg [.I 0,.I (-1:Int)]) []) (by kernel_rfl) ?_)
 have e4:W (((BitVec.ofInt (IntKind.bits .i64) ky&&&BitVec.ofInt (IntKind.bits .i64) 3).toNat :Nat):Int)=ky%4:=by
  have hb:IntKind.bits .i64 =64:=rfl;rw [hb];have:=jS (n:=64) (w:=2) ky (by omega)
  have e:(2:Int)^2 - 1=3:=by decide
  rw [e]at this;rw [this];have e2:(2:Int)^2=4:=by decide
  rw [e2];exact cH (by omega)
 unfold fA l8 at hK;refine aJ (fun e=>?_) (fun e=>aJ (fun e1=>?_) (fun e1=>aJ (fun e2=>?_) (fun e2=>aJ (fun e3=>⟨trivial,aJ (fun e5=>?_) (fun e5=>?_)⟩) (fun e3=>?_))))
 ·rw [e]at hK;rw [e4];exact hK
 ·rw [e,e1]at hK;exact hK
 ·rw [e]at e2;cases e2
 ·rw [e,e1,e3,e5]at hK;exact hK
 ·rw [e,e1,e3,e5]at hK;exact hK
 ·rw [e,e1,e3]at hK;exact hK
def zE:bE Ob:=fun args h=>match args,h with
 | [.agg [.int .i64 sh,.int .i64 kd,.int .i64 ky,.int .i64 pred,.int .u64 pw,.int .i64 curr,.int .u64 cw]],[]=>some (True,.bool (gS ky curr cw))
 | _,_=>none
theorem MD:sT' 287 zE.spec:=by
 intro args h o ho K hK;unfold bE.spec zE at ho;split at ho
 case h_2=>cases ho
 rename_i p v hp;split at hp
 case h_2=>cases hp
 rename_i sh kd ky pred pw curr cw;cases hp;simp only [sI']at ho;subst ho;obtain⟨hp,hK⟩:=hK;have hK:K (.bool (gS ky curr cw)) []:=hK;refine aJ1 (cM' (E:=EB0c) (q:=bif !ieq curr 0 then True/\K (.bool (ieq (aB cw 0 10) ky)) []else K (.bool false) []) (by kernel_rfl) ?_)
 unfold gS at hK;cases h:ieq curr 0 with
 | true=>rw [h]at hK;exact hK
 | false=>rw [h]at hK;exact⟨trivial,hK⟩
noncomputable def EB1:=(EB0c.addR 226 zW NJ).addR 287 zE MD
def aA8(v:AVal)(g:aC Ob):Option (Prop×PLN):=match v,g with
 | .agg [.bool now,.int .i64 code,.bool okk,.int .i64 val,.int .i64 addr,.int .u64 old,.int .i64 nxt,.bool mark,.int .i64 pops],[]=>some (True,⟨now,code,okk,val,addr,old,nxt,mark,pops⟩)
 | _,_=>none
def SA(y:PLN):AVal:=.agg [.bool y.now,.I y.code,.bool y.okk,.I y.val,.I y.addr,.int .u64 y.old,.I y.nxt,.bool y.mark,.I y.pops]
theorem R9:bO (obI tbl) 0 aA8 (fun y=>.ret (SA y) []):=by
 intro v g p x hp hq K hK;unfold aA8 at hp;split at hp
 case h_2=>cases hp
 cases hp;exact⟨⟨_,_,aKi _ _ _,hK⟩⟩
abbrev w02:Tr (PLN):=.pre True (.ret {now:=true,code:=0,okk:=false,val:=0,addr:=0,old:=0,nxt:=0,mark:=false,pops:=0})
abbrev w00(curr cw kd ky pred pw sh:Int):Tr (PLN):=.ite (ieq kd 5) (.ite (ieq curr 0) w02 (.pre True (.pre True (.ite (oR sh kd) (.pre True (.pre True (.pre True (.ret {now:=false,code:=0,okk:=true,val:=aB cw 0 10,addr:=pred,old:=pw,nxt:=aB cw 10 9,mark:=ieq (aB pw 19 1) 1,pops:=curr})))) (.pre True (.pre True (.ret {now:=false,code:=0,okk:=true,val:=aB cw 0 10,addr:=curr,old:=cw,nxt:=aB cw 10 9,mark:=true,pops:=0}))))))) (.ite (ieq kd 3) (.pre True (.pre True (.ret {now:=true,code:=0,okk:=gS ky curr cw,val:=0,addr:=0,old:=0,nxt:=0,mark:=false,pops:=0}))) w02)
abbrev w01(curr cw:Int):Tr (PLN):=.pre True (.pre True (.ret {now:=false,code:=0,okk:=true,val:=0,addr:=curr,old:=cw,nxt:=aB cw 10 9,mark:=true,pops:=0}))
abbrev w03(pred pw spare:Int):Tr (PLN):=.pre True (.pre True (.ret {now:=false,code:=0,okk:=true,val:=0,addr:=pred,old:=pw,nxt:=spare,mark:=ieq (aB pw 19 1) 1,pops:=0}))
def C5(sh kd ky pred pw curr cw spare:Int):Tr (PLN):=.pre True (.ite (!bR sh kd ky) (.pre True (.ret {now:=true,code:=1,okk:=false,val:=0,addr:=0,old:=0,nxt:=0,mark:=false,pops:=0})) (.ite (ieq kd 4) (.ite (ieq kd 4) (w03 pred pw spare) (.ite (ieq kd 2) (.pre True (.ite (gS ky curr cw) (w01 curr cw) (w00 curr cw kd ky pred pw sh))) (w00 curr cw kd ky pred pw sh))) (.ite (ieq kd 1) (.pre True (.ite (!gS ky curr cw) (w03 pred pw spare) (.ite (ieq kd 2) (.pre True (.ite (gS ky curr cw) (w01 curr cw) (w00 curr cw kd ky pred pw sh))) (w00 curr cw kd ky pred pw sh)))) (.ite (ieq kd 2) (.pre True (.ite (gS ky curr cw) (w01 curr cw) (w00 curr cw kd ky pred pw sh))) (w00 curr cw kd ky pred pw sh)))))
def bL(sh kd ky pred pw curr cw spare:Int):PLN:=(C5 sh kd ky pred pw curr cw spare).val
def vT(sh kd ky pred pw curr cw spare:Int):Prop:=(C5 sh kd ky pred pw curr cw spare).ok
def planS:aH Ob:=fun args h=>match args,h with
 | [.agg [.int .i64 sh,.int .i64 kd,.int .i64 ky],.agg [.int .i64 pred,.int .u64 pw,.int .i64 curr,.int .u64 cw],.int .i64 spare],[]=>some (.pre (vT sh kd ky pred pw curr cw spare) (.ret (SA (bL sh kd ky pred pw curr cw spare)) []))
 | _,_=>none
theorem ZH:sT' 256 planS:=by
 intro args h o ho K hK;unfold planS at ho;split at ho<;>cases ho
 rename_i sh kd ky pred pw curr cw spare;obtain⟨ok,hK⟩:=hK;refine aKf (root:=0) (pos:=[]) (cs:=[]) R9 ?_;exact cM' (E:=EB1) (q:=(C5 sh kd ky pred pw curr cw spare).run (fun y=>(Out.ret (SA y) []).run K)) (by kernel_rfl) (aJ5 ok hK)
def SB(v:AVal)(g:aC Ob):Option (Prop×Int):=match v,g with
 | .int .u64 x,[]=>some (True,x)
 | _,_=>none
def GW(y:Int):AVal:=.int .u64 y
theorem MJ:bO (obI tbl) 0 SB (fun y=>.ret (GW y) []):=by
 intro v g p x hp hq K hK;unfold SB at hp;split at hp
 case h_2=>cases hp
 cases hp;exact⟨⟨_,_,aKi _ _ _,hK⟩⟩
def vU(now:Bool)(code:Int)(okk:Bool)(val:Int)(addr:Int)(old:Int)(nxt:Int)(mark:Bool)(pops:Int):Tr (Int):=.ite now (.pre True (.ret 0)) (.pre True (.pre ((-1000000:Int)<=(0:Int)/\(0:Int)<=(1000000:Int)) (.pre ((0:Int)<=aB old 25 18/\aB old 25 (18:Int)<=(1000000:Int)) (.pre True (.pre True (.ret (bif bif aN (aB old 0 10) 10 then bif aN nxt 9 then bif aN 0 5 then aN (aW (aB old 25 18)) 18 else false else false else false then cR (aB old 0 10) nxt mark 0 (aW (aB old 25 18))else 0)))))))
def dS(now:Bool)(code:Int)(okk:Bool)(val:Int)(addr:Int)(old:Int)(nxt:Int)(mark:Bool)(pops:Int):Int:=(vU now code okk val addr old nxt mark pops).val
def zH(now:Bool)(code:Int)(okk:Bool)(val:Int)(addr:Int)(old:Int)(nxt:Int)(mark:Bool)(pops:Int):Prop:=(vU now code okk val addr old nxt mark pops).ok
def planWS:aH Ob:=fun args h=>match args,h with
 | [.agg [.bool now,.int .i64 code,.bool okk,.int .i64 val,.int .i64 addr,.int .u64 old,.int .i64 nxt,.bool mark,.int .i64 pops]],[]=>some (.pre (zH now code okk val addr old nxt mark pops) (.ret (GW (dS now code okk val addr old nxt mark pops)) []))
 | _,_=>none
theorem SC:sT' 218 planWS:=by
 intro args h o ho K hK;unfold planWS at ho;split at ho<;>cases ho
 rename_i now code okk val addr old nxt mark pops;obtain⟨ok,hK⟩:=hK;refine aKf (root:=0) (pos:=[]) (cs:=[]) MJ ?_;exact cM' (E:=EB1) (q:=(vU now code okk val addr old nxt mark pops).run (fun y=>(Out.ret (GW y) []).run K)) (by kernel_rfl) (aJ5 ok hK)
def R0(v:AVal)(g:aC Ob):Option (Prop×Bool):=match v,g with
 | .bool x,[]=>some (True,x)
 | _,_=>none
def GU(y:Bool):AVal:=.bool y
theorem ME:bO (obI tbl) 0 R0 (fun y=>.ret (GU y) []):=by
 intro v g p x hp hq K hK;unfold R0 at hp;split at hp
 case h_2=>cases hp
 cases hp;exact⟨⟨_,_,aKi _ _ _,hK⟩⟩
def vP(now:Bool)(code:Int)(okk:Bool)(val:Int)(addr:Int)(old:Int)(nxt:Int)(mark:Bool)(pops:Int):Tr (Bool):=.ite (!now) (.pre True (.pre True (.ret !ieq (aB old 20 5) 0))) (.pre True (.ret false))
def zF(now:Bool)(code:Int)(okk:Bool)(val:Int)(addr:Int)(old:Int)(nxt:Int)(mark:Bool)(pops:Int):Bool:=(vP now code okk val addr old nxt mark pops).val
def oC(now:Bool)(code:Int)(okk:Bool)(val:Int)(addr:Int)(old:Int)(nxt:Int)(mark:Bool)(pops:Int):Prop:=(vP now code okk val addr old nxt mark pops).ok
def planCS:aH Ob:=fun args h=>match args,h with
 | [.agg [.bool now,.int .i64 code,.bool okk,.int .i64 val,.int .i64 addr,.int .u64 old,.int .i64 nxt,.bool mark,.int .i64 pops]],[]=>some (.pre (oC now code okk val addr old nxt mark pops) (.ret (GU (zF now code okk val addr old nxt mark pops)) []))
 | _,_=>none
theorem R6:sT' 257 planCS:=by
 intro args h o ho K hK;unfold planCS at ho;split at ho<;>cases ho
 rename_i now code okk val addr old nxt mark pops;obtain⟨ok,hK⟩:=hK;refine aKf (root:=0) (pos:=[]) (cs:=[]) ME ?_;exact cM' (E:=EB1) (q:=(vP now code okk val addr old nxt mark pops).run (fun y=>(Out.ret (GU y) []).run K)) (by kernel_rfl) (aJ5 ok hK)
def R7(v:AVal)(g:aC Ob):Option (Prop×(Int×Int)):=match v,g with
 | .tup [.int .u64 x,.int .i64 e],[]=>some (True,(x,e))
 | _,_=>none
def GV(y:(Int×Int)):AVal:=.tup [.int .u64 y.1,.I y.2]
theorem MF:bO (obI tbl) 0 R7 (fun y=>.ret (GV y) []):=by
 intro v g p x hp hq K hK;unfold R7 at hp;split at hp
 case h_2=>cases hp
 cases hp;exact⟨⟨_,_,aKi _ _ _,hK⟩⟩
def vS(now:Bool)(code:Int)(okk:Bool)(val:Int)(addr:Int)(old:Int)(nxt:Int)(mark:Bool)(pops:Int)(att:Int):Tr ((Int×Int)):=.ite now (.pre True (.ret (0,5))) (.pre True (.pre True (.pre True (.ret (bif dOk att addr (aB old 25 18) nxt 2 val then cM att addr (aB old 25 18) nxt mark 2 val else 0,bif dOk att addr (aB old 25 18) nxt 2 val then 0 else 2)))))
def iW(now:Bool)(code:Int)(okk:Bool)(val:Int)(addr:Int)(old:Int)(nxt:Int)(mark:Bool)(pops:Int)(att:Int):(Int×Int):=(vS now code okk val addr old nxt mark pops att).val
def zG(now:Bool)(code:Int)(okk:Bool)(val:Int)(addr:Int)(old:Int)(nxt:Int)(mark:Bool)(pops:Int)(att:Int):Prop:=(vS now code okk val addr old nxt mark pops att).ok
def planDS:aH Ob:=fun args h=>match args,h with
 | [.agg [.bool now,.int .i64 code,.bool okk,.int .i64 val,.int .i64 addr,.int .u64 old,.int .i64 nxt,.bool mark,.int .i64 pops],.int .i64 att],[]=>some (.pre (zG now code okk val addr old nxt mark pops att) (.ret (GV (iW now code okk val addr old nxt mark pops att)) []))
 | _,_=>none
theorem R8:sT' 202 planDS:=by
 intro args h o ho K hK;unfold planDS at ho;split at ho<;>cases ho
 rename_i now code okk val addr old nxt mark pops att;obtain⟨ok,hK⟩:=hK;refine aKf (root:=0) (pos:=[]) (cs:=[]) MF ?_;exact cM' (E:=EB1) (q:=(vS now code okk val addr old nxt mark pops att).run (fun y=>(Out.ret (GV y) []).run K)) (by kernel_rfl) (aJ5 ok hK)
noncomputable def EB2:=(((EB1.addS 256 planS ZH).addS 218 planWS SC).addS 257 planCS R6).addS 202 planDS R8
abbrev aCP(x:ENS):aG Mc:=.cells [.ptr 1 0,.bool x.sh,.O,.O,.bool x.dn]
theorem WX{t n:Int}{x:ENS}{st:STS}{s:MS} :aF (obI tbl) 4 (.bool true) [some (.abs (.ensure t n x) [1]),some (.abs (.store t n st) []),aX 3 s,aY s] (.bool true) [some (aCP x),some (.abs (.store t n st) []),aX 3 s,aY s]:=by
 obtain⟨ph,sh,dn,a,y⟩:=x
 match ph with
 | 0=>exact(aF.unpack (.ensure t n ⟨0,sh,dn,a,y⟩) 0 1 (DU t n ⟨0,sh,dn,a,y⟩) [1] rfl rfl (by kernel_rfl) rfl).trans ((aF.weak (d5 _ 0 [2,3])).trans ((aF.pick (upto 0 4) rfl).trans (aJ8 (by kernel_rfl) (by kernel_rfl))))
 | 1=>exact(aF.unpack (.ensure t n ⟨1,sh,dn,a,y⟩) 0 1 (DU t n ⟨1,sh,dn,a,y⟩) [1] rfl rfl (by kernel_rfl) rfl).trans ((aF.weak (d5 _ 0 [2,3])).trans ((aF.pick (upto 0 4) rfl).trans (aJ8 (by kernel_rfl) (by kernel_rfl))))
 | 2=>exact(aF.unpack (.ensure t n ⟨2,sh,dn,a,y⟩) 0 1 (DU t n ⟨2,sh,dn,a,y⟩) [1] rfl rfl (by kernel_rfl) rfl).trans ((aF.weak (d5 _ 0 [2,3])).trans ((aF.pick (upto 0 4) rfl).trans (aJ8 (by kernel_rfl) (by kernel_rfl))))
 | 3=>exact(aF.unpack (.ensure t n ⟨3,sh,dn,a,y⟩) 0 1 (DU t n ⟨3,sh,dn,a,y⟩) [1] rfl rfl (by kernel_rfl) rfl).trans ((aF.weak (d5 _ 0 [2,3])).trans ((aF.pick (upto 0 4) rfl).trans (aJ8 (by kernel_rfl) (by kernel_rfl))))
 | k+4=>exact(aF.unpack (.ensure t n ⟨k+4,sh,dn,a,y⟩) 0 1 (DU t n ⟨k+4,sh,dn,a,y⟩) [1] rfl rfl (by kernel_rfl) rfl).trans ((aF.weak (d5 _ 0 [2,3])).trans ((aF.pick (upto 0 4) rfl).trans (aJ8 (by kernel_rfl) (by kernel_rfl))))
def EO.fin(t n:Int)(y:EO):Out Ob:=.ite y.d (.ret (.bool true) [some (aCP y.e),some (.abs (.store t n y.st) []),aX 3 y.s,aY y.s]) (.ret (.bool false) [some (.abs (.ensure t n y.e) [1]),some (.abs (.store t n y.st) []),aX 3 y.s,aY y.s])
theorem BH(t n:Int)(e:ENS)(st:STS)(s:MS)(K:AVal->aC Ob->Prop)(ok:L8 t n e st s)(hK:((enF t n e st s).fin t n).run K):cT' 154 [.ptr 0 0,.ptr 2 0] (WV t n e st s) K:=by
 refine aJ9 (H0 t n e st s _ ok ?_);show cO (obI tbl) 4 K (.bool (enF t n e st s).d) _;generalize enF t n e st s=y at hK⊢;exact qT hK (fun h=>⟨⟨_,_,WX,h⟩⟩) (fun h=>⟨⟨_,_,aKi _ _ _,h⟩⟩)
noncomputable def enSA:aH Ob:=fun args h=>match args,h with
 | [.ptr 0 0,.ptr 2 0],[some (.abs (.ensure t n x) [1]),some (.abs (.store t2 n2 st) []),e3,e4]=>(match cJ 3 [e3,e4]with
   | some (l,s)=>some (.pre ((l=s.xs.length/\t2=t/\n2=n)/\L8 t n x st s) (EO.fin t n (enF t n x st s)))
   | none=>none)
 | _,_=>none
theorem aCX:sT' 154 enSA:=by
 intro args h o ho K hK;unfold enSA at ho;split at ho
 case h_2=>cases ho
 split at ho<;>cases ho
 rename_i hm;obtain⟨⟨⟨hl,rfl,rfl⟩,ok⟩,hK⟩:=hK;cases aZ hm hl;exact BH _ _ _ _ _ K ok hK
def EO.finB(t n:Int)(y:EO):Out Ob:=.ite y.d (.ret (.bool true) [some (aCP y.e),gW 5 t n y.st,none,aX 4 y.s,aY y.s,gX y.st]) (.ret (.bool false) [some (.abs (.ensure t n y.e) [1]),gW 5 t n y.st,none,aX 4 y.s,aY y.s,gX y.st])
noncomputable def enSB:aH Ob:=fun args h=>match args,h with
 | [.ptr 0 0,.ptr 3 0],[some (.abs (.ensure t n x) [1]),e1,e2,e3,e4]=>(match lB 2 [e1,e2],cJ 4 [e3,e4]with
   | some (l2,t2,n2,st),some (l,s)=>some (.pre ((l=s.xs.length/\l2=st.R.length/\t2=t/\n2=n)/\L8 t n x st s) (EO.finB t n (enF t n x st s)))
   | _,_=>none)
 | _,_=>none
theorem aCY:sT' 154 enSB:=by
 intro args h o ho K hK;unfold enSB at ho;split at ho
 case h_2=>cases ho
 split at ho<;>cases ho
 rename_i hs hm;obtain⟨⟨⟨hl,hl2,rfl,rfl⟩,ok⟩,hK⟩:=hK;cases aZ hm hl;cases b9 hs hl2;exact jQ (fun ι hι=>by simp [aG.ren,aKg,AVal.ren,hι]) (fun ι hι=>by simp [aG.ren,hι]) (fun K hK=>BH _ _ _ _ _ K ok hK) K hK
noncomputable def enS2:aH Ob:=aH.or enSA enSB
theorem aCW:sT' 154 enS2:=aKs aCX aCY
abbrev aEQ(x:SWS):aG Mc:=.cells [.ptr 1 0,.O]
theorem Z7{t n:Int}{x:SWS}{st:STS}{s:MS} :aF (obI tbl) 4 (.bool true) [some (.abs (.sweep t n x) [1]),some (.abs (.store t n st) []),aX 3 s,aY s] (.bool true) [some (aEQ x),some (.abs (.store t n st) []),aX 3 s,aY s]:=by
 obtain⟨ph,N,m,i,ks,fs,gs,j,l⟩:=x
 match ph with
 | 0=>exact(aF.unpack (.sweep t n ⟨0,N,m,i,ks,fs,gs,j,l⟩) 0 1 (ND t n ⟨0,N,m,i,ks,fs,gs,j,l⟩) [1] rfl rfl (by kernel_rfl) rfl).trans ((aF.weak (d5 _ 0 [1])).trans ((aF.pick (upto 0 4) rfl).trans (aJ8 (by kernel_rfl) (by kernel_rfl))))
 | 1=>exact(aF.unpack (.sweep t n ⟨1,N,m,i,ks,fs,gs,j,l⟩) 0 1 (ND t n ⟨1,N,m,i,ks,fs,gs,j,l⟩) [1] rfl rfl (by kernel_rfl) rfl).trans ((aF.weak (d5 _ 0 [1])).trans ((aF.pick (upto 0 4) rfl).trans (aJ8 (by kernel_rfl) (by kernel_rfl))))
 | 2=>exact(aF.unpack (.sweep t n ⟨2,N,m,i,ks,fs,gs,j,l⟩) 0 1 (ND t n ⟨2,N,m,i,ks,fs,gs,j,l⟩) [1] rfl rfl (by kernel_rfl) rfl).trans ((aF.weak (d5 _ 0 [1])).trans ((aF.pick (upto 0 4) rfl).trans (aJ8 (by kernel_rfl) (by kernel_rfl))))
 | k+3=>exact(aF.unpack (.sweep t n ⟨k+3,N,m,i,ks,fs,gs,j,l⟩) 0 1 (ND t n ⟨k+3,N,m,i,ks,fs,gs,j,l⟩) [1] rfl rfl (by kernel_rfl) rfl).trans ((aF.weak (d5 _ 0 [1])).trans ((aF.pick (upto 0 4) rfl).trans (aJ8 (by kernel_rfl) (by kernel_rfl))))
def SO.fin(t n:Int)(y:SO):Out Ob:=.ite y.d (.ret (.bool true) [some (aEQ y.e),some (.abs (.store t n y.st) []),aX 3 y.s,aY y.s]) (.ret (.bool false) [some (.abs (.sweep t n y.e) [1]),some (.abs (.store t n y.st) []),aX 3 y.s,aY y.s])
theorem DL(t n:Int)(e:SWS)(st:STS)(s:MS)(K:AVal->aC Ob->Prop)(ok:qQ t n e st s)(hK:((swF t n e st s).fin t n).run K):cT' 169 [.ptr 0 0,.ptr 2 0] (swH t n e st s) K:=by
 refine aJ9 (Z8 t n e st s _ ok ?_);show cO (obI tbl) 4 K (.bool (swF t n e st s).d) _;generalize swF t n e st s=y at hK⊢;exact qT hK (fun h=>⟨⟨_,_,Z7,h⟩⟩) (fun h=>⟨⟨_,_,aKi _ _ _,h⟩⟩)
noncomputable def swSA:aH Ob:=fun args h=>match args,h with
 | [.ptr 0 0,.ptr 2 0],[some (.abs (.sweep t n x) [1]),some (.abs (.store t2 n2 st) []),e3,e4]=>(match cJ 3 [e3,e4]with
   | some (l,s)=>some (.pre ((l=s.xs.length/\t2=t/\n2=n)/\qQ t n x st s) (SO.fin t n (swF t n x st s)))
   | none=>none)
 | _,_=>none
theorem aEW:sT' 169 swSA:=by
 intro args h o ho K hK;unfold swSA at ho;split at ho
 case h_2=>cases ho
 split at ho<;>cases ho
 rename_i hm;obtain⟨⟨⟨hl,rfl,rfl⟩,ok⟩,hK⟩:=hK;cases aZ hm hl;exact DL _ _ _ _ _ K ok hK
def SO.finB(t n:Int)(y:SO):Out Ob:=.ite y.d (.ret (.bool true) [some (aEQ y.e),gW 5 t n y.st,none,aX 4 y.s,aY y.s,gX y.st]) (.ret (.bool false) [some (.abs (.sweep t n y.e) [1]),gW 5 t n y.st,none,aX 4 y.s,aY y.s,gX y.st])
noncomputable def swSB:aH Ob:=fun args h=>match args,h with
 | [.ptr 0 0,.ptr 3 0],[some (.abs (.sweep t n x) [1]),e1,e2,e3,e4]=>(match lB 2 [e1,e2],cJ 4 [e3,e4]with
   | some (l2,t2,n2,st),some (l,s)=>some (.pre ((l=s.xs.length/\l2=st.R.length/\t2=t/\n2=n)/\qQ t n x st s) (SO.finB t n (swF t n x st s)))
   | _,_=>none)
 | _,_=>none
theorem aEX:sT' 169 swSB:=by
 intro args h o ho K hK;unfold swSB at ho;split at ho
 case h_2=>cases ho
 split at ho<;>cases ho
 rename_i hs hm;obtain⟨⟨⟨hl,hl2,rfl,rfl⟩,ok⟩,hK⟩:=hK;cases aZ hm hl;cases b9 hs hl2;exact jQ (fun ι hι=>by simp [aG.ren,aKg,AVal.ren,hι]) (fun ι hι=>by simp [aG.ren,hι]) (fun K hK=>DL _ _ _ _ _ K ok hK) K hK
noncomputable def swSC:aH Ob:=aH.or swSA swSB
theorem aEV:sT' 169 swSC:=aKs aEW aEX
def aCS(t n:Int)(v:AVal)(g:aC Ob):Option (Prop×STS):=match v,g with
 | .ptr 2 0,[e1,e2,some (.cells [.ptr 0 0,.bool false,.raw (.pointer none),.raw (.pointer none),.bool false])]=>(match lB 1 [e1,e2]with
   | some (l2,t2,n2,st)=>some (t2=t/\n2=n/\l2=st.R.length,st)
   | none=>none)
 | _,_=>none
abbrev aCR(t n:Int)(y:STS):aC Ob:=[gW 1 t n y,gX y,some (.abs (.ensure t n bV) [0])]
theorem WW{t n:Int} :bO (obI tbl) 2 (aCS t n) (fun y=>.ret (.ptr 2 0) (aCR t n y)):=by
 intro v g p x hp hq K hK;unfold aCS at hp;split at hp
 case h_2=>cases hp
 split at hp
 case h_2=>cases hp
 rename_i l2 t2 n2 st hs;cases hp;obtain⟨rfl,rfl,hl2⟩:=hq;cases b9 hs hl2;exact tkP hK (.ensure t2 n2 bV) 2 1 (DU t2 n2 bV) [0]
def aCT(t n:Int)(st:STS):Tr STS:=.pre (t=t/\n=n/\lE' st.3) (.ret st)
def enNS:aH Ob:=fun args h=>match args,h with
 | [.ptr 0 0],[e1,e2]=>(match lB 1 [e1,e2]with
   | some (l2,t,n,st)=>some (.pre (l2=st.R.length/\(aCT t n st).ok) (.ret (.ptr 2 0) (aCR t n (aCT t n st).val)))
   | none=>none)
 | _,_=>none
theorem aCU:sT' 206 enNS:=by
 intro args h o ho K hK;unfold enNS at ho;split at ho
 case h_2=>cases ho
 split at ho<;>cases ho
 rename_i l2 t n st hs;obtain⟨⟨hl2,ok⟩,hK⟩:=hK;cases b9 hs hl2;refine aKf (root:=2) (pos:=[]) (cs:=[]) (parse:=aCS t n) WW ?_;exact cM' (E:=EB2) (q:=(aCT t n st).run (fun y=>(Out.ret (.ptr 2 0) (aCR t n y)).run K)) (by kernel_rfl) (aJ5 ok hK)
def aES(t n:Int)(v:AVal)(g:aC Ob):Option (Prop×STS):=match v,g with
 | .ptr 2 0,[e1,e2,some (.cells [.ptr 0 0,.raw (.pointer none)])]=>(match lB 1 [e1,e2]with
   | some (l2,t2,n2,st)=>some (t2=t/\n2=n/\l2=st.R.length,st)
   | none=>none)
 | _,_=>none
abbrev aER(t n:Int)(y:STS):aC Ob:=[gW 1 t n y,gX y,some (.abs (.sweep t n cX) [0])]
theorem Z3{t n:Int} :bO (obI tbl) 2 (aES t n) (fun y=>.ret (.ptr 2 0) (aER t n y)):=by
 intro v g p x hp hq K hK;unfold aES at hp;split at hp
 case h_2=>cases hp
 split at hp
 case h_2=>cases hp
 rename_i l2 t2 n2 st hs;cases hp;obtain⟨rfl,rfl,hl2⟩:=hq;cases b9 hs hl2;exact tkP hK (.sweep t2 n2 cX) 2 1 (ND t2 n2 cX) [0]
def aET(t n:Int)(st:STS):Tr STS:=.pre (t=t/\n=n/\lE' st.3) (.ret st)
def swNS:aH Ob:=fun args h=>match args,h with
 | [.ptr 0 0],[e1,e2]=>(match lB 1 [e1,e2]with
   | some (l2,t,n,st)=>some (.pre (l2=st.R.length/\(aET t n st).ok) (.ret (.ptr 2 0) (aER t n (aET t n st).val)))
   | none=>none)
 | _,_=>none
theorem aEU:sT' 167 swNS:=by
 intro args h o ho K hK;unfold swNS at ho;split at ho
 case h_2=>cases ho
 split at ho<;>cases ho
 rename_i l2 t n st hs;obtain⟨⟨hl2,ok⟩,hK⟩:=hK;cases b9 hs hl2;refine aKf (root:=2) (pos:=[]) (cs:=[]) (parse:=aES t n) Z3 ?_;exact cM' (E:=EB2) (q:=(aET t n st).run (fun y=>(Out.ret (.ptr 2 0) (aER t n y)).run K)) (by kernel_rfl) (aJ5 ok hK)
noncomputable def EB3:=(((EB2.addS 154 enS2 aCW).addS 169 swSC aEV).addS 206 enNS aCU).addS 167 swNS aEU
structure ClO where
 d:Bool
 x:CLS
 s:MS
instance:Inhabited ClO:=⟨⟨false,⟨0,0,0,0⟩,⟨0,0,[],0,0,0,0,0,false⟩⟩⟩
instance:Inhabited CLS:=⟨⟨0,0,0,0⟩⟩
abbrev clH(t n:Int)(x:CLS)(s:MS):aC Ob:=[some (.abs (.clear t n x) []),aX 2 s,aY s]
abbrev clD(t n:Int)(x:CLS)(s:MS):aC Ob:=[cE' [.I t,.I n,.I x.addr,.I x.at',.int .u64 x.word,.int .u64 x.found],aX 2 s,aY s]
def ClO.fin(t n:Int)(y:ClO):Out Ob:=.ite y.d (.ret (.bool true) (clD t n y.x y.s)) (.ret (.bool false) (clH t n y.x y.s))
def aCf(t n:Int)(v:AVal)(g:aC Ob):Option (Prop×ClO):=match v,g with
 | .bool d,[some (.cells [.int .i64 t1,.int .i64 n1,.int .i64 addr,.int .i64 at',.int .u64 word,.int .u64 found]),e1,e2]=>(match cJ 2 [e1,e2]with
   | some (l,s)=>some ((t1=t/\n1=n)/\l=s.xs.length,⟨d,⟨addr,at',word,found⟩,s⟩)
   | none=>none)
 | _,_=>none
def TX(t n:Int)(v:AVal)(g:aC Ob):Option (Prop×ClO):=aCf t n v g
theorem VH{t n:Int} :bO (obI tbl) 3 (aCf t n) (ClO.fin t n):=by
 intro v g p x hp hq K hK;unfold aCf at hp;split at hp
 case h_2=>cases hp
 rename_i d t1 n1 addr at' word found e1 e2;split at hp
 case h_2=>cases hp
 rename_i l s hm;cases hp;obtain⟨⟨rfl,rfl⟩,hl⟩:=hq;cases aZ hm hl;refine qT hK (fun h=>?_) (fun h=>?_)
 ·exact⟨⟨_,_,aKi _ _ _,h⟩⟩
 ·exact⟨⟨_,_,(aF.pack (clH t1 n1 (⟨addr,at',word,found⟩:CLS) s) (.clear t1 n1 (⟨addr,at',word,found⟩:CLS)) 0 0 (lX t1 n1 (⟨addr,at',word,found⟩:CLS)) [] (by kernel_rfl) rfl (congrArg (Prod.mk 0) rfl) (by kernel_rfl)),h⟩⟩
theorem yL{t n:Int} :bO (obI tbl) 3 (TX t n) (ClO.fin t n):=by
 intro v g p x hp hq K hK;unfold TX at hp;exact VH v g p x hp hq K hK
def AW(t n:Int)(x:CLS)(s:MS):Tr ClO:=.pre (q9' s) (.pre True (.ite (ilt (aB (aE s.3 x.1) 20 5 - 1) 0) (.pre ((t=t/\n=n)/\lE' s.3) (.ret {d:=true,x:= {addr:=x.1,at':=1,word:=aE s.3 x.1,found:=x.4},s:=(dU s x.1) })) (.pre ((t=t/\n=n)/\lE' s.3) (.ret {d:=ile t (aB (aE s.3 x.1) 20 5 - 1),x:= {addr:=x.1,at':=1,word:=aE s.3 x.1,found:=x.4},s:=(dU s x.1) }))))
theorem J3(t n:Int)(x:CLS)(s:MS)(K:ClO->Prop)(h:(AW t n x s).run K):cT' 214 [.ptr 0 0,.ptr 1 0] [cE' [.I t,.I n,.I x.addr,.I 0,.int .u64 x.word,.int .u64 x.found],aX 2 s,aY s] (bS 3 0 [] [] (TX t n) K):=by
 exact cM' (E:=EB3) (by kernel_rfl) h
abbrev w06(x:CLS):=aB x.3 20 5 - 1
abbrev w04(n:Int)(s:MS)(t:Int)(x:CLS):Tr ClO:=.ret {d:=false,x:= {addr:=x.1,at':=3,word:=x.3,found:=aE s.3 (2*n+5+2*t+3*(w06 x)+2) },s:=(dU s (2*n+5+2*t+3*(w06 x)+2)) }
abbrev w05(n t:Int)(x:CLS):=(((0:Int)<=t/\t<=(100000:Int))/\((0:Int)<=n/\n<=(100000:Int))/\(-1099511627776:Int)<=aB x.3 20 5 - 1/\aB x.3 20 5 - (1:Int)<=(1099511627776:Int))/\True
def AX(t n:Int)(x:CLS)(s:MS):Tr ClO:=.pre True (.pre (w05 n t x) (.pre ((q9' s)/\True) (.pre True (.ite (hasB [2] (aB (aE s.3 (2*n+5+2*t+3*(w06 x)+2)) 49 3)) (.ite (ieq (aB (aE s.3 (2*n+5+2*t+3*(w06 x)+2)) 12 9) x.1) (.pre True (.ite (ieq (aB (aE s.3 (2*n+5+2*t+3*(w06 x)+2)) 21 18) (aB x.3 25 18)) (.pre ((t=t/\n=n)/\lE' s.3) (.ret {d:=false,x:= {addr:=x.1,at':=2,word:=x.3,found:=aE s.3 (2*n+5+2*t+3*(w06 x)+2) },s:=(dU s (2*n+5+2*t+3*(w06 x)+2)) })) (.pre ((t=t/\n=n)/\lE' s.3) (w04 n s t x)))) (.pre ((t=t/\n=n)/\lE' s.3) (w04 n s t x))) (.pre ((t=t/\n=n)/\lE' s.3) (w04 n s t x))))))
theorem J4(t n:Int)(x:CLS)(s:MS)(K:ClO->Prop)(h:(AX t n x s).run K):cT' 214 [.ptr 0 0,.ptr 1 0] [cE' [.I t,.I n,.I x.addr,.I 1,.int .u64 x.word,.int .u64 x.found],aX 2 s,aY s] (bS 3 0 [] [] (TX t n) K):=by
 exact cM' (E:=EB3) (by kernel_rfl) h
def AY(t n:Int)(x:CLS)(s:MS):Tr ClO:=.pre True (.pre True (.pre True (.pre True (.pre (w05 n t x) (.pre ((q9' s)/\True) (.pre ((t=t/\n=n)/\lE' (bif bJ s.3 (2*n+5+2*t+3*(w06 x)+2) x.4 then bA s.3 (2*n+5+2*t+3*(w06 x)+2) (bif dOk (aB x.4 0 12) (aB x.4 12 9) (aB x.4 21 18) (aB x.4 39 9) 3 (aB x.4 52 10)then cM (aB x.4 0 12) (aB x.4 12 9) (aB x.4 21 18) (aB x.4 39 9) (ieq (aB x.4 48 1) 1) 3 (aB x.4 52 10)else 0)else s.3)) (.ret {d:=false,x:= {x with at':=3},s:=(pQ s (2*n+5+2*t+3*(w06 x)+2) x.4 (bif dOk (aB x.4 0 12) (aB x.4 12 9) (aB x.4 21 18) (aB x.4 39 9) 3 (aB x.4 52 10)then cM (aB x.4 0 12) (aB x.4 12 9) (aB x.4 21 18) (aB x.4 39 9) (ieq (aB x.4 48 1) 1) 3 (aB x.4 52 10)else 0)) })))))))
theorem J5(t n:Int)(x:CLS)(s:MS)(K:ClO->Prop)(h:(AY t n x s).run K):cT' 214 [.ptr 0 0,.ptr 1 0] [cE' [.I t,.I n,.I x.addr,.I 2,.int .u64 x.word,.int .u64 x.found],aX 2 s,aY s] (bS 3 0 [] [] (TX t n) K):=by
 exact cM' (E:=EB3) (by kernel_rfl) h
def AZ(t n:Int)(x:CLS)(s:MS):Tr ClO:=.pre True (.pre ((0:Int)<=aB x.3 25 18/\aB x.3 25 (18:Int)<=(1000000:Int)) (.pre True (.pre ((q9' s)/\True) (.pre ((t=t/\n=n)/\lE' (bif bJ s.3 x.1 x.3 then bA s.3 x.1 (bif bif aN (aB x.3 0 10) 10 then bif aN (aB x.3 10 9) 9 then bif aN 0 5 then aN (aW (aB x.3 25 18)) 18 else false else false else false then cR (aB x.3 0 10) (aB x.3 10 9) (ieq (aB x.3 19 1) 1) 0 (aW (aB x.3 25 18))else 0)else s.3)) (.ret {d:=true,x:= {x with at':=3},s:=(pQ s x.1 x.3 (bif bif aN (aB x.3 0 10) 10 then bif aN (aB x.3 10 9) 9 then bif aN 0 5 then aN (aW (aB x.3 25 18)) 18 else false else false else false then cR (aB x.3 0 10) (aB x.3 10 9) (ieq (aB x.3 19 1) 1) 0 (aW (aB x.3 25 18))else 0)) })))))
theorem J6(t n:Int)(x:CLS)(s:MS)(K:ClO->Prop)(h:(AZ t n x s).run K):cT' 214 [.ptr 0 0,.ptr 1 0] [cE' [.I t,.I n,.I x.addr,.I 3,.int .u64 x.word,.int .u64 x.found],aX 2 s,aY s] (bS 3 0 [] [] (TX t n) K):=by
 exact cM' (E:=EB3) (by kernel_rfl) h
def clT(t n:Int)(x:CLS)(s:MS):Tr ClO:=
 bif ieq x.at' 0 then AW t n x s else
 bif ieq x.at' 1 then AX t n x s else
 bif ieq x.at' 2 then AY t n x s else
 bif ieq x.at' 3 then AZ t n x s else .pre False (.ret default)
def oM(t n:Int)(x:CLS)(s:MS):ClO:=(clT t n x s).val
def OV(t n:Int)(x:CLS)(s:MS):Prop:=(clT t n x s).ok
theorem VI(t n:Int)(x:CLS)(s:MS)(K:AVal->aC Ob->Prop)(h:(clT t n x s).run (fun y=>(ClO.fin t n y).run K)):cT' 214 [.ptr 0 0,.ptr 1 0] (clH t n x s) K:=by
 unfold clT at h
 by_cases e:x.at'=0
 ·rw [e]at h;have h:(AW t n x s).run _:=h;refine aJ2 (root:=0) (pos:=[]) (cs:=[]) (parse:=TX t n) (fin:=ClO.fin t n) yL (aQ.unpack (.clear t n x) 0 0 (lX t n x) [] rfl (congrArg (Prod.mk 0) rfl) (by kernel_rfl) rfl) ?_
  have q:=J3 t n x s _ h;rw [<-e]at q;exact q
 rw [bK e]at h
 by_cases e:x.at'=1
 ·rw [e]at h;have h:(AX t n x s).run _:=h;refine aJ2 (root:=0) (pos:=[]) (cs:=[]) (parse:=TX t n) (fin:=ClO.fin t n) yL (aQ.unpack (.clear t n x) 0 0 (lX t n x) [] rfl (congrArg (Prod.mk 0) rfl) (by kernel_rfl) rfl) ?_
  have q:=J4 t n x s _ h;rw [<-e]at q;exact q
 rw [bK e]at h
 by_cases e:x.at'=2
 ·rw [e]at h;have h:(AY t n x s).run _:=h;refine aJ2 (root:=0) (pos:=[]) (cs:=[]) (parse:=TX t n) (fin:=ClO.fin t n) yL (aQ.unpack (.clear t n x) 0 0 (lX t n x) [] rfl (congrArg (Prod.mk 0) rfl) (by kernel_rfl) rfl) ?_
  have q:=J5 t n x s _ h;rw [<-e]at q;exact q
 rw [bK e]at h
 by_cases e:x.at'=3
 ·rw [e]at h;have h:(AZ t n x s).run _:=h;refine aJ2 (root:=0) (pos:=[]) (cs:=[]) (parse:=TX t n) (fin:=ClO.fin t n) yL (aQ.unpack (.clear t n x) 0 0 (lX t n x) [] rfl (congrArg (Prod.mk 0) rfl) (by kernel_rfl) rfl) ?_
  have q:=J6 t n x s _ h;rw [<-e]at q;exact q
 rw [bK e]at h;exact h.1.elim
noncomputable def clS:aH Ob:=fun args h=>match args,h with
 | [.ptr 0 0,.ptr 1 0],[some (.abs (.clear t n x) []),e1,e2]=>(match cJ 2 [e1,e2]with
   | some (l,s)=>some (.pre (l=s.xs.length/\OV t n x s) (ClO.fin t n (oM t n x s)))
   | none=>none)
 | _,_=>none
theorem aFS:sT' 214 clS:=by
 intro args h o ho K hK;unfold clS at ho;split at ho
 case h_2=>cases ho
 split at ho<;>cases ho
 rename_i hm;obtain⟨⟨hl,ok⟩,hK⟩:=hK;cases aZ hm hl;exact VI _ _ _ _ K (aJ5 ok hK)
def aCc(t n:Int)(v:AVal)(g:aC Ob):Option (Prop×CLS):=match v,g with
 | .ptr 0 0,[some (.cells [.int .i64 t1,.int .i64 n1,.int .i64 addr,.int .i64 at',.int .u64 word,.int .u64 found])]=>some ((t1=t/\n1=n),(⟨addr,at',word,found⟩:CLS))
 | _,_=>none
abbrev VF(t n:Int)(y:CLS):aC Ob:=[some (.abs (.clear t n y) [])]
theorem VG{t n:Int} :bO (obI tbl) 0 (aCc t n) (fun y=>.ret (.ptr 0 0) (VF t n y)):=by
 intro v g p x hp hq K hK;unfold aCc at hp;split at hp
 case h_2=>cases hp
 rename_i t1 n1 addr at' word found;cases hp;obtain⟨rfl,rfl⟩:=hq;exact⟨⟨_,_,aF.pack (VF t1 n1 (⟨addr,at',word,found⟩:CLS)) (.clear t1 n1 (⟨addr,at',word,found⟩:CLS)) 0 0 (lX t1 n1 (⟨addr,at',word,found⟩:CLS)) [] (by kernel_rfl) rfl (congrArg (Prod.mk 0) rfl) (by kernel_rfl),hK⟩⟩
def aCd(t n:Int)(a:Int):Tr CLS:=.pre (t=t/\n=n) (.ret {addr:=a,at':=0,word:=0,found:=0})
def yJ(t n:Int)(a:Int):CLS:=(aCd t n a).val
def p5(t n:Int)(a:Int):Prop:=(aCd t n a).ok
def clNS:aH Ob:=fun args h=>match args,h with
 | [.agg [.int .i64 t,.int .i64 n],.int .i64 a],[]=>some (.pre (p5 t n a) (.ret (.ptr 0 0) (VF t n (yJ t n a))))
 | _,_=>none
theorem aCe:sT' 258 clNS:=by
 intro args h o ho K hK;unfold clNS at ho;split at ho<;>cases ho
 rename_i t n a;obtain⟨ok,hK⟩:=hK;refine aKf (root:=0) (pos:=[]) (cs:=[]) (parse:=aCc t n) VG ?_;exact cM' (E:=EB3) (q:=(aCd t n a).run (fun y=>(Out.ret (.ptr 0 0) (VF t n y)).run K)) (by kernel_rfl) (aJ5 ok hK)
noncomputable def EC1:=((EB3.addS 214 clS aFS).addS 258 clNS aCe)
def cmpI(a b:Int):Int:=bif ilt a b then -1 else bif ilt b a then 1 else 0
def orI(a b:Int):Int:=bif ieq a 0 then b else a
def C9(u n v m:Int):Int:=orI (cmpI n m) (cmpI u v)
def OX:bE Ob:=fun args h=>match args,h with
 | [.int .i64 a,.int .i64 b],[]=>some (True,.I (cmpI a b))
 | _,_=>none
theorem VJ:sT' 280 OX.spec:=by
 intro args h o ho K hK;unfold bE.spec OX at ho;split at ho
 case h_2=>cases ho
 rename_i p v hp;split at hp
 case h_2=>cases hp
 rename_i a b;cases hp;simp only [sI']at ho;subst ho;obtain⟨hp,hK⟩:=hK;have hK:K (.I (cmpI a b)) []:=hK;refine aJ1 (cM' (E:=EC1) (q:=bif !ieq a a then bif !ieq b b then K (.I 0) []else K (.I (-1:Int)) []else bif !ieq b b then K (.I 1) []else bif ilt a b then K (.I (-1:Int)) []else bif ilt b a then K (.I 1) []else K (.I 0) []) (by kernel_rfl) ?_)
 unfold cmpI at hK;rw [qK,qK];cases h:ilt a b with
 | true=>rw [h]at hK;exact hK
 | false=>cases h2:ilt b a<;>(rw [h,h2]at hK;exact hK)
def OZ:bE Ob:=fun args h=>match args,h with
 | [.int .u64 a,.int .u64 b],[]=>some (True,.I (cmpI a b))
 | _,_=>none
theorem VL:sT' 279 OZ.spec:=by
 intro args h o ho K hK;unfold bE.spec OZ at ho;split at ho
 case h_2=>cases ho
 rename_i p v hp;split at hp
 case h_2=>cases hp
 rename_i a b;cases hp;simp only [sI']at ho;subst ho;obtain⟨hp,hK⟩:=hK;have hK:K (.I (cmpI a b)) []:=hK;refine aJ1 (cM' (E:=EC1) (q:=bif !ieq a a then bif !ieq b b then K (.I 0) []else K (.I (-1:Int)) []else bif !ieq b b then K (.I 1) []else bif ilt a b then K (.I (-1:Int)) []else bif ilt b a then K (.I 1) []else K (.I 0) []) (by kernel_rfl) ?_)
 unfold cmpI at hK;rw [qK,qK];cases h:ilt a b with
 | true=>rw [h]at hK;exact hK
 | false=>cases h2:ilt b a<;>(rw [h,h2]at hK;exact hK)
def OY:bE Ob:=fun args h=>match args,h with
 | [.slice 0 0 2 1],[some (.cells [.int .i64 a,.int .i64 b])]=>some (True,.I (orI a b))
 | _,_=>none
theorem VK:sT' 278 OY.spec:=by
 intro args h o ho K hK;unfold bE.spec OY at ho;split at ho
 case h_2=>cases ho
 rename_i p v hp;split at hp
 case h_2=>cases hp
 rename_i a b;cases hp;simp only [sI']at ho;subst ho;obtain⟨hp,hK⟩:=hK;have hK:K (.I (orI a b)) [cE' [.I a,.I b]]:=hK;refine aJ1 (cM' (E:=EC1) (q:=((0:Int)<=(0:Int)/\(0:Int)<(↑2:Int))/\bif !ieq a 0 then K (.I a) [cE' [.I a,.I b]]else((0:Int)<=W (0+1)/\W (0+1)<(↑2:Int))/\bif !ieq b 0 then K (.I b) [cE' [.I a,.I b]]else K (.I 0) [cE' [.I a,.I b]]) (by kernel_rfl) ?_)
 unfold orI at hK;have e1:W (0+1)=1:=by decide
 simp only [W]at e1;simp only [W,e1];refine⟨by omega,?_⟩
 cases h:ieq a 0 with
 | false=>rw [h]at hK;exact hK
 | true=>
   rw [h]at hK;refine⟨by omega,?_⟩
   cases h2:ieq b 0 with
   | false=>exact hK
   | true=>
     have:b=0:=by rw [cI]at h2;simpa using h2
     subst this;exact hK
noncomputable def EQ1:=((EC1.addR 280 OX VJ).addR 279 OZ VL).addR 278 OY VK
def SK:bE Ob:=fun args h=>match args,h with
 | [.agg [.int .i64 u,.int .u64 n],.agg [.int .i64 v,.int .u64 m]],[]=>some (True,.I (C9 u n v m))
 | _,_=>none
theorem ZM:sT' 244 SK.spec:=by
 intro args h o ho K hK;unfold bE.spec SK at ho;split at ho
 case h_2=>cases ho
 rename_i p v hp;split at hp
 case h_2=>cases hp
 rename_i u n v m;cases hp;simp only [sI']at ho;subst ho;obtain⟨hp,hK⟩:=hK;have hK:K (.I (C9 u n v m)) []:=hK;refine aJ1 (cM' (E:=EQ1) (q:=True/\True/\True/\K (.I (orI (cmpI n m) (cmpI u v))) []) (by kernel_rfl) ?_)
 exact⟨trivial,trivial,trivial,hK⟩
noncomputable def EQ2:=EQ1.addR 244 SK ZM
def zJ(u n v m:Int):Bool:=!ile 0 (C9 u n v m)
def GZ:bE Ob:=fun args h=>match args,h with
 | [.slice 0 0 2 2],[some (.cells [.int .i64 u,.int .u64 n,.int .i64 v,.int .u64 m])]=>some (True,.bool (zJ u n v m))
 | _,_=>none
theorem SL:sT' 195 GZ.spec:=by
 intro args h o ho K hK;unfold bE.spec GZ at ho;split at ho
 case h_2=>cases ho
 rename_i p v hp;split at hp
 case h_2=>cases hp
 rename_i u n v m;cases hp;simp only [sI']at ho;subst ho;obtain⟨hp,hK⟩:=hK;have hK:K (.bool (zJ u n v m)) [cE' [.I u,.int .u64 n,.I v,.int .u64 m]]:=hK;refine aJ1 (cM' (E:=EQ2) (q:=((0:Int)<=W (1 - 1)/\W (1 - 1)<(↑2:Int))/\((0:Int)<=(1:Int)/\(1:Int)<(↑2:Int))/\True/\bif ile 0 (C9 u n v m)then K (.bool false) [cE' [.I u,.int .u64 n,.I v,.int .u64 m]]else K (.bool true) [cE' [.I u,.int .u64 n,.I v,.int .u64 m]]) (by kernel_rfl) ?_)
 have e1:W (1 - 1)=0:=by decide
 simp only [W]at e1;simp only [W,e1];refine⟨by omega,by omega,trivial,?_⟩
 unfold zJ at hK;cases h:ile 0 (C9 u n v m)<;>(rw [h]at hK;exact hK)
noncomputable def EQ:=EQ2.addR 195 GZ SL
structure HdO where
 d:Bool
 x:HDS
 s:MS
instance:Inhabited HdO:=⟨⟨false,⟨0,0,0,false⟩,⟨0,0,[],0,0,0,0,0,false⟩⟩⟩
instance:Inhabited HDS:=⟨⟨0,0,0,false⟩⟩
abbrev hdH(t n:Int)(x:HDS)(s:MS):aC Ob:=[some (.abs (.head t n x) []),aX 2 s,aY s]
abbrev hdD(t n:Int)(x:HDS)(s:MS):aC Ob:=[cE' [.I t,.I n,.I x.u,.int .u64 x.no,.I x.at',.bool x.tk],aX 2 s,aY s]
def HdO.fin(t n:Int)(y:HdO):Out Ob:=.ite y.d (.ret (.bool true) (hdD t n y.x y.s)) (.ret (.bool false) (hdH t n y.x y.s))
def aDO(t n:Int)(v:AVal)(g:aC Ob):Option (Prop×HdO):=match v,g with
 | .bool d,[some (.cells [.int .i64 t1,.int .i64 n1,.int .i64 u,.int .u64 no,.int .i64 at',.bool tk]),e1,e2]=>(match cJ 2 [e1,e2]with
   | some (l,s)=>some ((t1=t/\n1=n)/\l=s.xs.length,⟨d,⟨u,no,at',tk⟩,s⟩)
   | none=>none)
 | _,_=>none
def hdP(t n:Int)(v:AVal)(g:aC Ob):Option (Prop×HdO):=aDO t n v g
theorem X9{t n:Int} :bO (obI tbl) 3 (aDO t n) (HdO.fin t n):=by
 intro v g p x hp hq K hK;unfold aDO at hp;split at hp
 case h_2=>cases hp
 rename_i d t1 n1 u no at' tk e1 e2;split at hp
 case h_2=>cases hp
 rename_i l s hm;cases hp;obtain⟨⟨rfl,rfl⟩,hl⟩:=hq;cases aZ hm hl;refine qT hK (fun h=>?_) (fun h=>?_)
 ·exact⟨⟨_,_,aKi _ _ _,h⟩⟩
 ·exact⟨⟨_,_,(aF.pack (hdH t1 n1 (⟨u,no,at',tk⟩:HDS) s) (.head t1 n1 (⟨u,no,at',tk⟩:HDS)) 0 0 (y4 t1 n1 (⟨u,no,at',tk⟩:HDS)) [] (by kernel_rfl) rfl (congrArg (Prod.mk 0) rfl) (by kernel_rfl)),h⟩⟩
theorem aDP{t n:Int} :bO (obI tbl) 3 (hdP t n) (HdO.fin t n):=by
 intro v g p x hp hq K hK;unfold hdP at hp;exact X9 v g p x hp hq K hK
abbrev w07(n t:Int)(x:HDS):=(((0:Int)<=t/\t<=(100000:Int))/\((0:Int)<=n/\n<=(100000:Int))/\(-1099511627776:Int)<=x.3/\x.3<=(1099511627776:Int))/\True
abbrev w08(n:Int)(s:MS)(t:Int)(x:HDS):Tr HdO:=.ret {d:=ile t (W (x.3+1)),x:= {u:=x.3,no:=aE s.3 (2*n+5+2*t+3*x.3),at':=W (x.3+1),tk:=false},s:=(dU s (2*n+5+2*t+3*x.3)) }
def YA(t n:Int)(x:HDS)(s:MS):Tr HdO:=.ite (!x.4) (.pre (w07 n t x) (.pre ((q9' s)/\True) (.pre True (.pre True (.ite (!nK (aB (aE s.3 (2*n+5+2*t+3*x.3+2)) 49 3)) (.pre ((t=t/\n=n)/\lE' s.3) (.ret {d:=ile t (W (x.3+1)),x:= {u:=x.1,no:=x.2,at':=W (x.3+1),tk:=false},s:=(dU s (2*n+5+2*t+3*x.3+2)) })) (.pre ((t=t/\n=n)/\lE' s.3) (.ret {d:=false,x:= {x with tk:=nK (aB (aE s.3 (2*n+5+2*t+3*x.3+2)) 49 3) },s:=(dU s (2*n+5+2*t+3*x.3+2)) }))))))) (.pre (w07 n t x) (.pre ((q9' s)/\True) (.ite (ilt x.1 0) (.pre ((t=t/\n=n)/\lE' s.3) (w08 n s t x)) (.pre True (.ite (zJ x.3 (aE s.3 (2*n+5+2*t+3*x.3)) x.1 x.2) (.pre ((t=t/\n=n)/\lE' s.3) (w08 n s t x)) (.pre ((t=t/\n=n)/\lE' s.3) (.ret {d:=ile t (W (x.3+1)),x:= {u:=x.1,no:=x.2,at':=W (x.3+1),tk:=false},s:=(dU s (2*n+5+2*t+3*x.3)) })))))))
theorem QI(t n:Int)(x:HDS)(s:MS)(K:HdO->Prop)(h:(YA t n x s).run K):cT' 150 [.ptr 0 0,.ptr 1 0] [cE' [.I t,.I n,.I x.u,.int .u64 x.no,.I x.at',.bool x.tk],aX 2 s,aY s] (bS 3 0 [] [] (hdP t n) K):=by
 exact cM' (E:=EQ) (by kernel_rfl) h
def hdT(t n:Int)(x:HDS)(s:MS):Tr HdO:=YA t n x s
def pR(t n:Int)(x:HDS)(s:MS):HdO:=(hdT t n x s).val
def aDN(t n:Int)(x:HDS)(s:MS):Prop:=(hdT t n x s).ok
theorem YB(t n:Int)(x:HDS)(s:MS)(K:AVal->aC Ob->Prop)(h:(hdT t n x s).run (fun y=>(HdO.fin t n y).run K)):cT' 150 [.ptr 0 0,.ptr 1 0] (hdH t n x s) K:=by
 unfold hdT at h;exact aJ2 (root:=0) (pos:=[]) (cs:=[]) (parse:=hdP t n) (fin:=HdO.fin t n) aDP (aQ.unpack (.head t n x) 0 0 (y4 t n x) [] rfl (congrArg (Prod.mk 0) rfl) (by kernel_rfl) rfl) (QI t n x s _ h)
noncomputable def hdS:aH Ob:=fun args h=>match args,h with
 | [.ptr 0 0,.ptr 1 0],[some (.abs (.head t n x) []),e1,e2]=>(match cJ 2 [e1,e2]with
   | some (l,s)=>some (.pre (l=s.xs.length/\aDN t n x s) (HdO.fin t n (pR t n x s)))
   | none=>none)
 | _,_=>none
theorem aGR:sT' 150 hdS:=by
 intro args h o ho K hK;unfold hdS at ho;split at ho
 case h_2=>cases ho
 split at ho<;>cases ho
 rename_i hm;obtain⟨⟨hl,ok⟩,hK⟩:=hK;cases aZ hm hl;exact YB _ _ _ _ K (aJ5 ok hK)
def aDK(t n:Int)(v:AVal)(g:aC Ob):Option (Prop×HDS):=match v,g with
 | .ptr 0 0,[some (.cells [.int .i64 t1,.int .i64 n1,.int .i64 u,.int .u64 no,.int .i64 at',.bool tk])]=>some ((t1=t/\n1=n),(⟨u,no,at',tk⟩:HDS))
 | _,_=>none
abbrev X6(t n:Int)(y:HDS):aC Ob:=[some (.abs (.head t n y) [])]
theorem X7{t n:Int} :bO (obI tbl) 0 (aDK t n) (fun y=>.ret (.ptr 0 0) (X6 t n y)):=by
 intro v g p x hp hq K hK;unfold aDK at hp;split at hp
 case h_2=>cases hp
 rename_i t1 n1 u no at' tk;cases hp;obtain⟨rfl,rfl⟩:=hq;exact⟨⟨_,_,aF.pack (X6 t1 n1 (⟨u,no,at',tk⟩:HDS)) (.head t1 n1 (⟨u,no,at',tk⟩:HDS)) 0 0 (y4 t1 n1 (⟨u,no,at',tk⟩:HDS)) [] (by kernel_rfl) rfl (congrArg (Prod.mk 0) rfl) (by kernel_rfl),hK⟩⟩
def aDL(t n:Int):Tr HDS:=.pre (t=t/\n=n) (.ret {u:= -1,no:=0,at':=0,tk:=false})
def aDJ(t n:Int):HDS:=(aDL t n).val
def QG(t n:Int):Prop:=(aDL t n).ok
def hdNS:aH Ob:=fun args h=>match args,h with
 | [.agg [.int .i64 t,.int .i64 n]],[]=>some (.pre (QG t n) (.ret (.ptr 0 0) (X6 t n (aDJ t n))))
 | _,_=>none
theorem aDM:sT' 128 hdNS:=by
 intro args h o ho K hK;unfold hdNS at ho;split at ho<;>cases ho
 rename_i t n;obtain⟨ok,hK⟩:=hK;refine aKf (root:=0) (pos:=[]) (cs:=[]) (parse:=aDK t n) X7 ?_;exact cM' (E:=EQ) (q:=(aDL t n).run (fun y=>(Out.ret (.ptr 0 0) (X6 t n y)).run K)) (by kernel_rfl) (aJ5 ok hK)
noncomputable def EC2:=((EQ.addS 150 hdS aGR).addS 128 hdNS aDM)
structure DrO where
 d:Bool
 x:DRS
 s:MS
instance:Inhabited DrO:=⟨⟨false,⟨0,0⟩,⟨0,0,[],0,0,0,0,0,false⟩⟩⟩
instance:Inhabited DRS:=⟨⟨0,0⟩⟩
abbrev drH(t n:Int)(x:DRS)(s:MS):aC Ob:=[some (.abs (.drop t n x) []),aX 2 s,aY s]
abbrev drD(t n:Int)(x:DRS)(s:MS):aC Ob:=[cE' [.I t,.I n,.I x.th,.I x.at'],aX 2 s,aY s]
def DrO.fin(t n:Int)(y:DrO):Out Ob:=.ite y.d (.ret (.bool true) (drD t n y.x y.s)) (.ret (.bool false) (drH t n y.x y.s))
def aCE(t n:Int)(v:AVal)(g:aC Ob):Option (Prop×DrO):=match v,g with
 | .bool d,[some (.cells [.int .i64 t1,.int .i64 n1,.int .i64 th,.int .i64 at']),e1,e2]=>(match cJ 2 [e1,e2]with
   | some (l,s)=>some ((t1=t/\n1=n)/\l=s.xs.length,⟨d,⟨th,at'⟩,s⟩)
   | none=>none)
 | _,_=>none
def drP(t n:Int)(v:AVal)(g:aC Ob):Option (Prop×DrO):=aCE t n v g
theorem WM{t n:Int} :bO (obI tbl) 3 (aCE t n) (DrO.fin t n):=by
 intro v g p x hp hq K hK;unfold aCE at hp;split at hp
 case h_2=>cases hp
 rename_i d t1 n1 th at' e1 e2;split at hp
 case h_2=>cases hp
 rename_i l s hm;cases hp;obtain⟨⟨rfl,rfl⟩,hl⟩:=hq;cases aZ hm hl;refine qT hK (fun h=>?_) (fun h=>?_)
 ·exact⟨⟨_,_,aKi _ _ _,h⟩⟩
 ·exact⟨⟨_,_,(aF.pack (drH t1 n1 (⟨th,at'⟩:DRS) s) (.drop t1 n1 (⟨th,at'⟩:DRS)) 0 0 (yP t1 n1 (⟨th,at'⟩:DRS)) [] (by kernel_rfl) rfl (congrArg (Prod.mk 0) rfl) (by kernel_rfl)),h⟩⟩
theorem aCF{t n:Int} :bO (obI tbl) 3 (drP t n) (DrO.fin t n):=by
 intro v g p x hp hq K hK;unfold drP at hp;exact WM v g p x hp hq K hK
def WN(t n:Int)(x:DRS)(s:MS):Tr DrO:=.pre ((((0:Int)<=t/\t<=(100000:Int))/\((0:Int)<=n/\n<=(100000:Int))/\((-1099511627776:Int)<=x.1/\x.1<=(1099511627776:Int))/\(-1099511627776:Int)<=x.2/\x.2<=(1099511627776:Int))/\True) (.pre ((q9' s)/\True) (.pre ((t=t/\n=n)/\lE' (bA s.3 (2*n+5+2*x.1+x.2) 0)) (.ret {d:=ile 2 (W (x.2+1)),x:= {th:=x.1,at':=W (x.2+1) },s:=(NC s 2 (2*n+5+2*x.1+x.2) 0) })))
theorem PA(t n:Int)(x:DRS)(s:MS)(K:DrO->Prop)(h:(WN t n x s).run K):cT' 166 [.ptr 0 0,.ptr 1 0] [cE' [.I t,.I n,.I x.th,.I x.at'],aX 2 s,aY s] (bS 3 0 [] [] (drP t n) K):=by
 exact cM' (E:=EC2) (by kernel_rfl) h
def drT(t n:Int)(x:DRS)(s:MS):Tr DrO:=WN t n x s
def TY(t n:Int)(x:DRS)(s:MS):DrO:=(drT t n x s).val
def aCD(t n:Int)(x:DRS)(s:MS):Prop:=(drT t n x s).ok
theorem WO(t n:Int)(x:DRS)(s:MS)(K:AVal->aC Ob->Prop)(h:(drT t n x s).run (fun y=>(DrO.fin t n y).run K)):cT' 166 [.ptr 0 0,.ptr 1 0] (drH t n x s) K:=by
 unfold drT at h;exact aJ2 (root:=0) (pos:=[]) (cs:=[]) (parse:=drP t n) (fin:=DrO.fin t n) aCF (aQ.unpack (.drop t n x) 0 0 (yP t n x) [] rfl (congrArg (Prod.mk 0) rfl) (by kernel_rfl) rfl) (PA t n x s _ h)
noncomputable def drS:aH Ob:=fun args h=>match args,h with
 | [.ptr 0 0,.ptr 1 0],[some (.abs (.drop t n x) []),e1,e2]=>(match cJ 2 [e1,e2]with
   | some (l,s)=>some (.pre (l=s.xs.length/\aCD t n x s) (DrO.fin t n (TY t n x s)))
   | none=>none)
 | _,_=>none
theorem aFX:sT' 166 drS:=by
 intro args h o ho K hK;unfold drS at ho;split at ho
 case h_2=>cases ho
 split at ho<;>cases ho
 rename_i hm;obtain⟨⟨hl,ok⟩,hK⟩:=hK;cases aZ hm hl;exact WO _ _ _ _ K (aJ5 ok hK)
def aCA(t n:Int)(v:AVal)(g:aC Ob):Option (Prop×DRS):=match v,g with
 | .ptr 0 0,[some (.cells [.int .i64 t1,.int .i64 n1,.int .i64 th,.int .i64 at'])]=>some ((t1=t/\n1=n),(⟨th,at'⟩:DRS))
 | _,_=>none
abbrev WJ(t n:Int)(y:DRS):aC Ob:=[some (.abs (.drop t n y) [])]
theorem WK{t n:Int} :bO (obI tbl) 0 (aCA t n) (fun y=>.ret (.ptr 0 0) (WJ t n y)):=by
 intro v g p x hp hq K hK;unfold aCA at hp;split at hp
 case h_2=>cases hp
 rename_i t1 n1 th at';cases hp;obtain⟨rfl,rfl⟩:=hq;exact⟨⟨_,_,aF.pack (WJ t1 n1 (⟨th,at'⟩:DRS)) (.drop t1 n1 (⟨th,at'⟩:DRS)) 0 0 (yP t1 n1 (⟨th,at'⟩:DRS)) [] (by kernel_rfl) rfl (congrArg (Prod.mk 0) rfl) (by kernel_rfl),hK⟩⟩
def aCB(t n:Int)(u:Int):Tr DRS:=.pre (t=t/\n=n) (.ret {th:=u,at':=0})
def BD(t n:Int)(u:Int):DRS:=(aCB t n u).val
def sK(t n:Int)(u:Int):Prop:=(aCB t n u).ok
def drNS:aH Ob:=fun args h=>match args,h with
 | [.agg [.int .i64 t,.int .i64 n],.int .i64 u],[]=>some (.pre (sK t n u) (.ret (.ptr 0 0) (WJ t n (BD t n u))))
 | _,_=>none
theorem aCC:sT' 233 drNS:=by
 intro args h o ho K hK;unfold drNS at ho;split at ho<;>cases ho
 rename_i t n u;obtain⟨ok,hK⟩:=hK;refine aKf (root:=0) (pos:=[]) (cs:=[]) (parse:=aCA t n) WK ?_;exact cM' (E:=EC2) (q:=(aCB t n u).run (fun y=>(Out.ret (.ptr 0 0) (WJ t n y)).run K)) (by kernel_rfl) (aJ5 ok hK)
noncomputable def EC3:=((EC2.addS 166 drS aFX).addS 233 drNS aCC)
structure AnO where
 d:Bool
 x:ANS
 s:MS
instance:Inhabited AnO:=⟨⟨false,⟨0,0,0,0,false,0⟩,⟨0,0,[],0,0,0,0,0,false⟩⟩⟩
instance:Inhabited ANS:=⟨⟨0,0,0,0,false,0⟩⟩
abbrev anH(t n:Int)(x:ANS)(s:MS):aC Ob:=[some (.abs (.announce t n x) []),aX 2 s,aY s]
abbrev anD(t n:Int)(x:ANS)(s:MS):aC Ob:=[cE' [.I t,.I n,.int .u64 x.no,.I x.me,.I x.at',.int .u64 x.bits,.bool x.wrong,.int .u64 x.found],aX 2 s,aY s]
def AnO.fin(t n:Int)(y:AnO):Out Ob:=.ite y.d (.ret (.bool true) (anD t n y.x y.s)) (.ret (.bool false) (anH t n y.x y.s))
def aBS(t n:Int)(v:AVal)(g:aC Ob):Option (Prop×AnO):=match v,g with
 | .bool d,[some (.cells [.int .i64 t1,.int .i64 n1,.int .u64 no,.int .i64 me,.int .i64 at',.int .u64 bits,.bool wrong,.int .u64 found]),e1,e2]=>(match cJ 2 [e1,e2]with
   | some (l,s)=>some ((t1=t/\n1=n)/\l=s.xs.length,⟨d,⟨no,me,at',bits,wrong,found⟩,s⟩)
   | none=>none)
 | _,_=>none
def NO(t n:Int)(v:AVal)(g:aC Ob):Option (Prop×AnO):=aBS t n v g
theorem US{t n:Int} :bO (obI tbl) 3 (aBS t n) (AnO.fin t n):=by
 intro v g p x hp hq K hK;unfold aBS at hp;split at hp
 case h_2=>cases hp
 rename_i d t1 n1 no me at' bits wrong found e1 e2;split at hp
 case h_2=>cases hp
 rename_i l s hm;cases hp;obtain⟨⟨rfl,rfl⟩,hl⟩:=hq;cases aZ hm hl;refine qT hK (fun h=>?_) (fun h=>?_)
 ·exact⟨⟨_,_,aKi _ _ _,h⟩⟩
 ·exact⟨⟨_,_,(aF.pack (anH t1 n1 (⟨no,me,at',bits,wrong,found⟩:ANS) s) (.announce t1 n1 (⟨no,me,at',bits,wrong,found⟩:ANS)) 0 0 (eQ t1 n1 (⟨no,me,at',bits,wrong,found⟩:ANS)) [] (by kernel_rfl) rfl (congrArg (Prod.mk 0) rfl) (by kernel_rfl)),h⟩⟩
theorem uJ{t n:Int} :bO (obI tbl) 3 (NO t n) (AnO.fin t n):=by
 intro v g p x hp hq K hK;unfold NO at hp;exact US v g p x hp hq K hK
abbrev w09(n t:Int)(x:ANS):=(((0:Int)<=t/\t<=(100000:Int))/\((0:Int)<=n/\n<=(100000:Int))/\(-1099511627776:Int)<=x.2/\x.2<=(1099511627776:Int))/\True
def AI(t n:Int)(x:ANS)(s:MS):Tr AnO:=.ite x.5 (.pre (q9' s) (.pre ((t=t/\n=n)/\lE' s.3) (.ret {d:=true,x:= {x with at':=0},s:=(dU s 0) }))) (.pre (w09 n t x) (.pre ((q9' s)/\True) (.pre ((t=t/\n=n)/\lE' (bA s.3 (2*n+5+2*t+3*x.2+1) x.4)) (.ret {d:=false,x:= {x with at':=W (0+1)},s:=(NC s 2 (2*n+5+2*t+3*x.2+1) x.4) }))))
theorem JR(t n:Int)(x:ANS)(s:MS)(K:AnO->Prop)(h:(AI t n x s).run K):cT' 158 [.ptr 0 0,.ptr 1 0] [cE' [.I t,.I n,.int .u64 x.no,.I x.me,.I 0,.int .u64 x.bits,.bool x.wrong,.int .u64 x.found],aX 2 s,aY s] (bS 3 0 [] [] (NO t n) K):=by
 exact cM' (E:=EC3) (by kernel_rfl) h
def AJ(t n:Int)(x:ANS)(s:MS):Tr AnO:=.ite x.5 (.pre (q9' s) (.pre ((t=t/\n=n)/\lE' s.3) (.ret {d:=true,x:= {x with at':=1},s:=(dU s 0) }))) (.pre (((0:Int)<=t/\t<=(100000:Int))/\(0:Int)<=n/\n<=(100000:Int)) (.pre (q9' s) (.pre ((t=t/\n=n)/\lE' (bA s.3 (2*n+5+2*t+3*t) (WU (aE s.3 (2*n+5+2*t+3*t)+1)))) (.ret {d:=false,x:= {x with no:=WU (aE s.3 (2*n+5+2*t+3*t)+1),at':=W (1+1)},s:=(NC s 4 (2*n+5+2*t+3*t) (WU (aE s.3 (2*n+5+2*t+3*t)+1))) }))))
theorem JS(t n:Int)(x:ANS)(s:MS)(K:AnO->Prop)(h:(AJ t n x s).run K):cT' 158 [.ptr 0 0,.ptr 1 0] [cE' [.I t,.I n,.int .u64 x.no,.I x.me,.I 1,.int .u64 x.bits,.bool x.wrong,.int .u64 x.found],aX 2 s,aY s] (bS 3 0 [] [] (NO t n) K):=by
 exact cM' (E:=EC3) (by kernel_rfl) h
def AK(t n:Int)(x:ANS)(s:MS):Tr AnO:=.ite x.5 (.pre (q9' s) (.pre ((t=t/\n=n)/\lE' s.3) (.ret {d:=true,x:= {x with at':=2},s:=(dU s 0) }))) (.pre (w09 n t x) (.pre ((q9' s)/\True) (.pre ((t=t/\n=n)/\lE' (bA s.3 (2*n+5+2*t+3*x.2) x.1)) (.ret {d:=false,x:= {x with at':=W (2+1)},s:=(NC s 2 (2*n+5+2*t+3*x.2) x.1) }))))
theorem JT(t n:Int)(x:ANS)(s:MS)(K:AnO->Prop)(h:(AK t n x s).run K):cT' 158 [.ptr 0 0,.ptr 1 0] [cE' [.I t,.I n,.int .u64 x.no,.I x.me,.I 2,.int .u64 x.bits,.bool x.wrong,.int .u64 x.found],aX 2 s,aY s] (bS 3 0 [] [] (NO t n) K):=by
 exact cM' (E:=EC3) (by kernel_rfl) h
def AM(t n:Int)(x:ANS)(s:MS):Tr AnO:=.ite x.5 (.pre (q9' s) (.pre ((t=t/\n=n)/\lE' s.3) (.ret {d:=true,x:= {x with at':=3},s:=(dU s 0) }))) (.pre (w09 n t x) (.pre ((q9' s)/\True) (.pre ((t=t/\n=n)/\lE' s.3) (.ret {d:=false,x:= {x with at':=W (3+1),found:=aE s.3 (2*n+5+2*t+3*x.2+2) },s:=(dU s (2*n+5+2*t+3*x.2+2)) }))))
theorem JU(t n:Int)(x:ANS)(s:MS)(K:AnO->Prop)(h:(AM t n x s).run K):cT' 158 [.ptr 0 0,.ptr 1 0] [cE' [.I t,.I n,.int .u64 x.no,.I x.me,.I 3,.int .u64 x.bits,.bool x.wrong,.int .u64 x.found],aX 2 s,aY s] (bS 3 0 [] [] (NO t n) K):=by
 exact cM' (E:=EC3) (by kernel_rfl) h
def AN(t n:Int)(x:ANS)(s:MS):Tr AnO:=.ite x.5 (.pre (q9' s) (.pre ((t=t/\n=n)/\lE' s.3) (.ret {d:=true,x:= {x with at':=4},s:=(dU s 0) }))) (.pre True (.pre ((0:Int)<=aB x.6 0 12/\aB x.6 0 (12:Int)<=(1000000:Int)) (.pre True (.pre (w09 n t x) (.pre ((q9' s)/\True) (.pre ((t=t/\n=n)/\lE' (bA s.3 (2*n+5+2*t+3*x.2+2) (bif dOk (gQ (aB x.6 0 12)) 0 0 0 1 0 then cM (gQ (aB x.6 0 12)) 0 0 0 false 1 0 else 0))) (.ret {d:=true,x:= {x with at':=W (4+1)},s:=(NC s 2 (2*n+5+2*t+3*x.2+2) (bif dOk (gQ (aB x.6 0 12)) 0 0 0 1 0 then cM (gQ (aB x.6 0 12)) 0 0 0 false 1 0 else 0)) })))))))
theorem JV(t n:Int)(x:ANS)(s:MS)(K:AnO->Prop)(h:(AN t n x s).run K):cT' 158 [.ptr 0 0,.ptr 1 0] [cE' [.I t,.I n,.int .u64 x.no,.I x.me,.I 4,.int .u64 x.bits,.bool x.wrong,.int .u64 x.found],aX 2 s,aY s] (bS 3 0 [] [] (NO t n) K):=by
 exact cM' (E:=EC3) (by kernel_rfl) h
def anT(t n:Int)(x:ANS)(s:MS):Tr AnO:=
 bif ieq x.at' 0 then AI t n x s else
 bif ieq x.at' 1 then AJ t n x s else
 bif ieq x.at' 2 then AK t n x s else
 bif ieq x.at' 3 then AM t n x s else
 bif ieq x.at' 4 then AN t n x s else .pre False (.ret default)
def EP(t n:Int)(x:ANS)(s:MS):AnO:=(anT t n x s).val
def aBR(t n:Int)(x:ANS)(s:MS):Prop:=(anT t n x s).ok
theorem UU(t n:Int)(x:ANS)(s:MS)(K:AVal->aC Ob->Prop)(h:(anT t n x s).run (fun y=>(AnO.fin t n y).run K)):cT' 158 [.ptr 0 0,.ptr 1 0] (anH t n x s) K:=by
 unfold anT at h
 by_cases e:x.at'=0
 ·rw [e]at h;have h:(AI t n x s).run _:=h;refine aJ2 (root:=0) (pos:=[]) (cs:=[]) (parse:=NO t n) (fin:=AnO.fin t n) uJ (aQ.unpack (.announce t n x) 0 0 (eQ t n x) [] rfl (congrArg (Prod.mk 0) rfl) (by kernel_rfl) rfl) ?_
  have q:=JR t n x s _ h;rw [<-e]at q;exact q
 rw [bK e]at h
 by_cases e:x.at'=1
 ·rw [e]at h;have h:(AJ t n x s).run _:=h;refine aJ2 (root:=0) (pos:=[]) (cs:=[]) (parse:=NO t n) (fin:=AnO.fin t n) uJ (aQ.unpack (.announce t n x) 0 0 (eQ t n x) [] rfl (congrArg (Prod.mk 0) rfl) (by kernel_rfl) rfl) ?_
  have q:=JS t n x s _ h;rw [<-e]at q;exact q
 rw [bK e]at h
 by_cases e:x.at'=2
 ·rw [e]at h;have h:(AK t n x s).run _:=h;refine aJ2 (root:=0) (pos:=[]) (cs:=[]) (parse:=NO t n) (fin:=AnO.fin t n) uJ (aQ.unpack (.announce t n x) 0 0 (eQ t n x) [] rfl (congrArg (Prod.mk 0) rfl) (by kernel_rfl) rfl) ?_
  have q:=JT t n x s _ h;rw [<-e]at q;exact q
 rw [bK e]at h
 by_cases e:x.at'=3
 ·rw [e]at h;have h:(AM t n x s).run _:=h;refine aJ2 (root:=0) (pos:=[]) (cs:=[]) (parse:=NO t n) (fin:=AnO.fin t n) uJ (aQ.unpack (.announce t n x) 0 0 (eQ t n x) [] rfl (congrArg (Prod.mk 0) rfl) (by kernel_rfl) rfl) ?_
  have q:=JU t n x s _ h;rw [<-e]at q;exact q
 rw [bK e]at h
 by_cases e:x.at'=4
 ·rw [e]at h;have h:(AN t n x s).run _:=h;refine aJ2 (root:=0) (pos:=[]) (cs:=[]) (parse:=NO t n) (fin:=AnO.fin t n) uJ (aQ.unpack (.announce t n x) 0 0 (eQ t n x) [] rfl (congrArg (Prod.mk 0) rfl) (by kernel_rfl) rfl) ?_
  have q:=JV t n x s _ h;rw [<-e]at q;exact q
 rw [bK e]at h;exact h.1.elim
noncomputable def anS:aH Ob:=fun args h=>match args,h with
 | [.ptr 0 0,.ptr 1 0],[some (.abs (.announce t n x) []),e1,e2]=>(match cJ 2 [e1,e2]with
   | some (l,s)=>some (.pre (l=s.xs.length/\aBR t n x s) (AnO.fin t n (EP t n x s)))
   | none=>none)
 | _,_=>none
theorem aFI:sT' 158 anS:=by
 intro args h o ho K hK;unfold anS at ho;split at ho
 case h_2=>cases ho
 split at ho<;>cases ho
 rename_i hm;obtain⟨⟨hl,ok⟩,hK⟩:=hK;cases aZ hm hl;exact UU _ _ _ _ K (aJ5 ok hK)
def aBO(t n:Int)(v:AVal)(g:aC Ob):Option (Prop×ANS):=match v,g with
 | .ptr 0 0,[some (.cells [.int .i64 t1,.int .i64 n1,.int .u64 no,.int .i64 me,.int .i64 at',.int .u64 bits,.bool wrong,.int .u64 found])]=>some ((t1=t/\n1=n),(⟨no,me,at',bits,wrong,found⟩:ANS))
 | _,_=>none
abbrev UP(t n:Int)(y:ANS):aC Ob:=[some (.abs (.announce t n y) [])]
theorem UQ{t n:Int} :bO (obI tbl) 0 (aBO t n) (fun y=>.ret (.ptr 0 0) (UP t n y)):=by
 intro v g p x hp hq K hK;unfold aBO at hp;split at hp
 case h_2=>cases hp
 rename_i t1 n1 no me at' bits wrong found;cases hp;obtain⟨rfl,rfl⟩:=hq;exact⟨⟨_,_,aF.pack (UP t1 n1 (⟨no,me,at',bits,wrong,found⟩:ANS)) (.announce t1 n1 (⟨no,me,at',bits,wrong,found⟩:ANS)) 0 0 (eQ t1 n1 (⟨no,me,at',bits,wrong,found⟩:ANS)) [] (by kernel_rfl) rfl (congrArg (Prod.mk 0) rfl) (by kernel_rfl),hK⟩⟩
def aBP(t n:Int)(u sh kd ky:Int):Tr ANS:=.pre True (.pre (t=t/\n=n) (.ret {no:=0,me:=u,at':=0,bits:=bif bR sh kd ky then tskV sh kd ky else 0,wrong:=!ieq (bif bR sh kd ky then 0 else 1) 0,found:=0}))
def aBN(t n:Int)(u sh kd ky:Int):ANS:=(aBP t n u sh kd ky).val
def OL(t n:Int)(u sh kd ky:Int):Prop:=(aBP t n u sh kd ky).ok
def anNS:aH Ob:=fun args h=>match args,h with
 | [.agg [.int .i64 t,.int .i64 n],.int .i64 u,.agg [.int .i64 sh,.int .i64 kd,.int .i64 ky]],[]=>some (.pre (OL t n u sh kd ky) (.ret (.ptr 0 0) (UP t n (aBN t n u sh kd ky))))
 | _,_=>none
theorem aBQ:sT' 220 anNS:=by
 intro args h o ho K hK;unfold anNS at ho;split at ho<;>cases ho
 rename_i t n u sh kd ky;obtain⟨ok,hK⟩:=hK;refine aKf (root:=0) (pos:=[]) (cs:=[]) (parse:=aBO t n) UQ ?_;exact cM' (E:=EC3) (q:=(aBP t n u sh kd ky).run (fun y=>(Out.ret (.ptr 0 0) (UP t n y)).run K)) (by kernel_rfl) (aJ5 ok hK)
noncomputable def EC4:=((EC3.addS 158 anS aFI).addS 220 anNS aBQ)
end Go.Sh
