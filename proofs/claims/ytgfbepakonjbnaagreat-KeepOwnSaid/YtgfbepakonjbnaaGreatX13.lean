/-
  SHA-256 as the program has it, plain. sha.spread and what it calls, walked. sha.spread, walked.
-/
import Derived.Test.YtgfbepakonjbnaaGreatX10
import Derived.BigQuiet
import Derived.BigRegion
set_option maxRecDepth 100000
set_option maxHeartbeats 16000000
section
section
set_option linter.unusedSimpArgs false
set_option linter.unusedVariables false
namespace Go.Proofs.YtgfbepakonjbnaaGreat
open Go.RowKit Go.MapKept Go.ChangeMaps
def Ae5(p q x:Int):Int:=bits .or .u32 (x*p % 4294967296) (x / q)
def xr(a b:Int):Int:=bits .xor .u32 a b
def an(a b:Int):Int:=bits .and .u32 a b
def ad(a b:Int):Int:=(a+b) % 4294967296
def nt(a:Int):Int:=bits .xor .u32 (if IntKind.u32.signed=true then -1 else IntKind.u32.max) a
def Bu6:List Int:=[1116352408,1899447441,3049323471,3921009573,961987163,1508970993,2453635748,2870763221,3624381080,310598401,607225278,1426881987,1925078388,2162078206,2614888103,3248222580,3835390401,4022224774,264347078,604807628,770255983,1249150122,1555081692,1996064986,2554220882,2821834349,2952996808,3210313671,3336571891,3584528711,113926993,338241895,666307205,773529912,1294757372,1396182291,1695183700,1986661051,2177026350,2456956037,2730485921,2820302411,3259730800,3345764771,3516065817,3600352804,4094571909,275423344,430227734,506948616,659060556,883997877,958139571,1322822218,1537002063,1747873779,1955562222,2024104815,2227730452,2361852424,2428436474,2756734187,3204031479,3329325298]
def byI(b:List UInt8)(i:Nat):Int:=((b.getD i 0).toNat:Int)
def Bk6(b:List UInt8)(i:Nat):Int:=bits .or .u32 (bits .or .u32 (bits .or .u32 (byI b (4*i)*16777216 % 4294967296) (byI b (4*i+1)*65536 % 4294967296)) (byI b (4*i+2)*256 % 4294967296)) (byI b (4*i+3))
def Ag8(b:List UInt8):Nat->List Int
 | 0=>List.replicate 64 0
 | q+1=>(Ag8 b q).set q (Bk6 b q)
def Ci9(ws:List Int)(i:Nat):Int:=
 (ws.getD (i-16) 0+xr (xr (Ae5 33554432 128 (ws.getD (i-15) 0)) (Ae5 16384 262144 (ws.getD (i-15) 0))) (ws.getD (i-15) 0 / 8)+ws.getD (i-7) 0+xr (xr (Ae5 32768 131072 (ws.getD (i-2) 0)) (Ae5 8192 524288 (ws.getD (i-2) 0))) (ws.getD (i-2) 0 / 1024)) % 4294967296
def V6(b:List UInt8):Nat->List Int
 | 0=>Ag8 b 16
 | q+1=>(V6 b q).set (16+q) (Ci9 (V6 b q) (16+q))
theorem X8(b:List UInt8):∀q,(Ag8 b q).length=64
 | 0=>by simp[Ag8]
 | q+1=>by simp only[Ag8,List.length_set];exact X8 b q
theorem R4(b:List UInt8):∀q,(V6 b q).length=64
 | 0=>X8 b 16
 | q+1=>by simp only[V6,List.length_set];exact R4 b q
structure W8 where
 a:Int
 b:Int
 c:Int
 d:Int
 e:Int
 f:Int
 g:Int
 h:Int
def W8.l(s:W8):List Int:=[s.a,s.b,s.c,s.d,s.e,s.f,s.g,s.h]
def Bu7(s:W8):Int:=xr (xr (Ae5 67108864 64 s.e) (Ae5 2097152 2048 s.e)) (Ae5 128 33554432 s.e)
def Cj0(k w:Int)(s:W8):Int:=((s.h+Bu7 s+xr (an s.e s.f) (an (nt s.e) s.g)+k) % 4294967296+w) % 4294967296
def As1(s:W8):Int:=xr (xr (Ae5 1073741824 4 s.a) (Ae5 524288 8192 s.a)) (Ae5 1024 4194304 s.a)
def Cw7(s:W8):Int:=ad (As1 s) (xr (xr (an s.a s.b) (an s.a s.c)) (an s.b s.c))
def rnd(k w:Int)(s:W8):W8:=⟨ad (Cj0 k w s) (Cw7 s),s.a,s.b,s.c,ad s.d (Cj0 k w s),s.e,s.f,s.g⟩
def Ap9(ws:List Int)(s:W8):Nat->W8
 | 0=>s
 | q+1=>rnd (Bu6.getD q 0) (ws.getD q 0) (Ap9 ws s q)
def De3(s t:W8):W8:=⟨ad s.a t.a,ad s.b t.b,ad s.c t.c,ad s.d t.d,ad s.e t.e,ad s.f t.f,ad s.g t.g,ad s.h t.h⟩
def Aq0(s t:List Int):Nat->List Int
 | 0=>s
 | q+1=>(Aq0 s t q).set q (ad ((Aq0 s t q).getD q 0) (t.getD q 0))
theorem Ay4(s t:List Int):∀q,(Aq0 s t q).length=s.length
 | 0=>rfl
 | q+1=>by simp only[Aq0,List.length_set];exact Ay4 s t q
theorem Cj1(s t:W8):Aq0 s.l t.l 8=(De3 s t).l:=rfl
def Cb4(s:W8)(b:List UInt8):W8:=De3 s (Ap9 (V6 b 48) s 64)
structure Hs where
 st:W8
 wait:List UInt8
 n:Nat
def Hs.by(H:Hs)(c:UInt8):Hs:=if H.n % 64=63 then⟨Cb4 H.st (H.wait.set (H.n % 64) c),H.wait.set (H.n % 64) c,H.n+1⟩ else⟨H.st,H.wait.set (H.n % 64) c,H.n+1⟩
def Hs.more(H:Hs)(b:List UInt8):Hs:=b.foldl Hs.by H
def hs0:Hs:=⟨⟨1779033703,3144134277,1013904242,2773480762,1359893119,2600822924,528734635,1541459225⟩,List.replicate 64 0,0⟩
theorem Hs.by_wait(H:Hs)(c:UInt8):(H.by c).wait=H.wait.set (H.n % 64) c/\(H.by c).n=H.n+1:=by
 unfold Hs.by;split<;>exact⟨rfl,rfl⟩
theorem Hs.more_n(H:Hs)(b:List UInt8):(H.more b).n=H.n+b.length:=by
 unfold Hs.more;induction b generalizing H with
 | nil=>rfl
 | cons c b ih=>rw[List.foldl_cons,ih,(H.by_wait c).2,List.length_cons];omega
theorem Hs.more_wait(H:Hs)(b:List UInt8):(H.more b).wait.length=H.wait.length:=by
 unfold Hs.more;induction b generalizing H with
 | nil=>rfl
 | cons c b ih=>rw[List.foldl_cons,ih,(H.by_wait c).1,List.length_set]
theorem Hs.more_app(H:Hs)(a b:List UInt8):H.more (a++b)=(H.more a).more b:=by unfold Hs.more;rw[List.foldl_append]
theorem Hs.piece:∀(f:List UInt8) (H:Hs),H.wait.length=64->0<f.length->H.n % 64+f.length<=64->
  H.more f=if H.n % 64+f.length=64 then⟨Cb4 H.st (G8 H.wait (H.n % 64) f),G8 H.wait (H.n % 64) f,H.n+f.length⟩ else⟨H.st,G8 H.wait (H.n % 64) f,H.n+f.length⟩
 | [],H,_,h0,_=>by simp at h0
 | [c],H,hw,_,_=>by
  have h1:G8 H.wait (H.n % 64) [c]=H.wait.set (H.n % 64) c:=by
   apply List.ext_getElem?;intro i;rw[V5 (by rw[hw];simp;omega),List.getElem?_set];by_cases hi:i=H.n % 64
   ·subst hi;simp[hw];omega
   ·rw[if_neg (by simp;omega),if_neg (by omega)]
  show H.by c=_
  unfold Hs.by
  rw[h1];by_cases h:H.n % 64=63
  ·rw[if_pos h,if_pos (by simp;omega)];rfl
  ·rw[if_neg h,if_neg (by simp;omega)];rfl
 | c :: d :: f,H,hw,_,hf=>by
  have hne:¬H.n % 64=63:=by simp at hf;omega
  have hb:H.by c=⟨H.st,H.wait.set (H.n % 64) c,H.n+1⟩:=by unfold Hs.by;rw[if_neg hne]
  have hm:(H.n+1) % 64=H.n % 64+1:=by simp at hf;omega
  have ih:=Hs.piece (d :: f) ⟨H.st,H.wait.set (H.n % 64) c,H.n+1⟩ (by rw[List.length_set];exact hw) (by simp) (by show(H.n+1) % 64+_<=64;rw[hm];simp at hf ⊢;omega);have ho:G8 (H.wait.set (H.n % 64) c) ((H.n+1) % 64) (d :: f)=G8 H.wait (H.n % 64) (c :: d :: f):=by
   rw[hm];have hlt:H.n % 64<64:=Nat.mod_lt _ (by decide);apply List.ext_getElem?;intro i;rw[V5 (by rw[List.length_set,hw];simp at hf ⊢;omega),V5 (by rw[hw];simp at hf ⊢;omega),List.getElem?_set];by_cases h1:H.n % 64+1<=i/\i<H.n % 64+1+(d :: f).length
   ·rw[if_pos h1,if_pos (by simp at h1 ⊢;omega),show i-H.n % 64=(i-(H.n % 64+1))+1 by omega,List.getElem?_cons_succ]
   ·rw[if_neg h1];by_cases h2:H.n % 64=i
    ·subst h2;rw[if_pos rfl,if_pos (by omega),if_pos (by simp),Nat.sub_self];rfl
    ·rw[if_neg h2,if_neg (by simp at h1 ⊢;omega)]
  show(H.by c).more (d :: f)=_
  rw[hb,ih];show(if(H.n+1) % 64+(d :: f).length=64 then(⟨Cb4 H.st (G8 (H.wait.set (H.n % 64) c) ((H.n+1) % 64) (d :: f)),G8 (H.wait.set (H.n % 64) c) ((H.n+1) % 64) (d :: f),H.n+1+(d :: f).length⟩:Hs) else⟨H.st,G8 (H.wait.set (H.n % 64) c) ((H.n+1) % 64) (d :: f),H.n+1+(d :: f).length⟩)=_
  rw[ho,hm];have e1:H.n+1+(d :: f).length=H.n+(c :: d :: f).length:=by simp;omega
  have e2:H.n % 64+1+(d :: f).length=H.n % 64+(c :: d :: f).length:=by simp;omega
  rw[e1,e2]
def Db8(n:Nat):Nat:=(119-n % 64) % 64
def Db9(n:Nat):List UInt8:=(128 :: List.replicate (Db8 n) 0)++be 8 (8*n)
def oct(x:Int):UInt8:=UInt8.ofNat (x % 256).toNat
def An7(l:List Int):Nat->List UInt8
 | 0=>List.replicate 32 0
 | q+1=>(An7 l q).set q (oct (l.getD (q / 4) 0 / 2 ^ (24-8*(q % 4))))
theorem U5(l:List Int):∀q,(An7 l q).length=32
 | 0=>by simp[An7]
 | q+1=>by simp only[An7,List.length_set];exact U5 l q
def Hs.sum(H:Hs):List UInt8:=An7 (H.more (Db9 H.n)).st.l 32
def Ay5(b:List UInt8):List UInt8:=(hs0.more b).sum
theorem Ai7(b:List UInt8):(Ay5 b).length=32:=by unfold Ay5 Hs.sum;exact U5 _ _
end Go.Proofs.YtgfbepakonjbnaaGreat
end
section
set_option linter.unusedSimpArgs false
set_option linter.unusedVariables false
namespace Go.Proofs.YtgfbepakonjbnaaGreat
open Go.RowKit Go.MapKept Go.ChangeMaps
def wv(x:Int):Value:=.int .u32 x
def wvs(l:List Int):List Value:=l.map wv
theorem C8(l:List Int):(wvs l).length=l.length:=by unfold wvs;rw[List.length_map]
theorem As2(l:List Int){i:Nat}(h:i<l.length):(wvs l)[i]?=some (.int .u32 (l.getD i 0)):=by
 unfold wvs;rw[List.getElem?_map,List.getD_eq_getElem?_getD,List.getElem?_eq_getElem h];rfl
theorem Am8(l:List Int):∀u∈wvs l,u.oneCell'=true:=by
 intro u hu;unfold wvs at hu;obtain⟨x,_,rfl⟩:=List.mem_map.1 hu;rfl
theorem Bo2(l:List Int)(i:Nat)(x:Int):wvs (l.set i x)=(wvs l).set i (.int .u32 x):=by
 unfold wvs;rw[List.map_set];rfl
def Y6:List (Int × Int × Int × Int):=[(-7,25,33554432,128),(-18,14,16384,262144),(-17,15,32768,131072),(-19,13,8192,524288),(-6,26,67108864,64),(-11,21,2097152,2048),(-25,7,128,33554432),(-2,30,1073741824,4),(-13,19,524288,8192),(-22,10,1024,4194304)]
theorem Cb5:∀t,t∈Y6->bits BinOp.and IntKind.u64 (IntKind.u64.wrap t.1) 31=t.2.1/\IntKind.u64.wrap (32-t.2.1)=32-t.2.1:=by decide
theorem Al0(x k s p q:Int)(hk:(k,s,p,q)∈Y6)(w:World) :
  Calls Tryz.prog 282 #[.int .u32 x,.int .i64 k] w λ e w'=>e=.returned (.int .u32 (Ae5 p q x))/\w=w':=by
 have hs:=(Cb5 _ hk).1;dsimp only at hs;simp only[Y6,List.mem_cons,Prod.mk.injEq,List.not_mem_nil,or_false] at hk;rcases hk with⟨rfl,rfl,rfl,rfl⟩ | ⟨rfl,rfl,rfl,rfl⟩ | ⟨rfl,rfl,rfl,rfl⟩ | ⟨rfl,rfl,rfl,rfl⟩ | ⟨rfl,rfl,rfl,rfl⟩ | ⟨rfl,rfl,rfl,rfl⟩ | ⟨rfl,rfl,rfl,rfl⟩ | ⟨rfl,rfl,rfl,rfl⟩ | ⟨rfl,rfl,rfl,rfl⟩ | ⟨rfl,rfl,rfl,rfl⟩;all_goals
  go_enter Tryz.func282,Tryz.ntmps282
  go_wp2_with fail
  go_ret;exact⟨rfl,rfl⟩
theorem As3:(#[.int .u32 0,.int .u32 0,.int .u32 0,.int .u32 0,.int .u32 0,.int .u32 0,.int .u32 0,.int .u32 0,.int .u32 0,.int .u32 0,.int .u32 0,.int .u32 0,.int .u32 0,.int .u32 0,.int .u32 0,.int .u32 0,.int .u32 0,.int .u32 0,.int .u32 0,.int .u32 0,.int .u32 0,.int .u32 0,.int .u32 0,.int .u32 0,.int .u32 0,.int .u32 0,.int .u32 0,.int .u32 0,.int .u32 0,.int .u32 0,.int .u32 0,.int .u32 0,.int .u32 0,.int .u32 0,.int .u32 0,.int .u32 0,.int .u32 0,.int .u32 0,.int .u32 0,.int .u32 0,.int .u32 0,.int .u32 0,.int .u32 0,.int .u32 0,.int .u32 0,.int .u32 0,.int .u32 0,.int .u32 0,.int .u32 0,.int .u32 0,.int .u32 0,.int .u32 0,.int .u32 0,.int .u32 0,.int .u32 0,.int .u32 0,.int .u32 0,.int .u32 0,.int .u32 0,.int .u32 0,.int .u32 0,.int .u32 0,.int .u32 0,.int .u32 0]:Array Value)=(wvs (Ag8 [] 0)).toArray:=by rfl
theorem N5{w:World}{b:Nat}{C:Array Value}{T:TypeId}(h:w.heap[b]?=some (.cells C T (0,0))){l:List Value}(hl:l.length=C.size)(h1:∀u∈l,u.oneCell'=true):(storeCells ⟨b,0,none⟩ l 0).run Tryz.prog w=.ok () (w.setRow b l.toArray):=by
 have:=run_storeCells_from (P:=Tryz.prog) b T l 0 C w h (by omega) h1;rw[this,List.take_zero,List.nil_append]
theorem As4{w:World}{b:Nat}{C:Array Value}{T:TypeId}(h:w.heap[b]?=some (.cells C T (0,0)))(i:Nat){v:Value}(hi:i<C.size)(h1:v.oneCell'=true):(storeCells ⟨b,i,none⟩ [v] 0).run Tryz.prog w=.ok () (w.setCell ⟨b,i,none⟩ v):=by
 have hc:w.cell? ⟨b,i,none⟩=some C[i]:=by rw[A2 h];simp[hi]
 have hf:=B6 h i;have:=run_storeCells_cells (P:=Tryz.prog) b i [v] 0 w (by simp[hc]) (by simpa using hf) (by simpa using h1);simpa [World.setCells] using this
theorem Aq1{w:World}{b n:Nat}{cs:List Value}{T:TypeId}{fr:Nat × Nat}(h:w.heap[b]?=some (.cells cs.toArray T fr))(hn:cs.length=n):(loadCells ⟨b,0,none⟩ n).run Tryz.prog w=.ok cs.toArray w:=by
 have:=run_loadCells_list (P:=Tryz.prog) w ⟨b,0,none⟩ cs (λ j v hv=>by rw[Addr.add_mid,A2 h,List.getElem?_toArray,Nat.zero_add];exact hv);rw[hn] at this;exact this
theorem V7{S:List Nat}{a w:World}(h:Upd S a w){b:Nat}(cs:Array Value)(hb:b∈S∨a.heap.size<=b):Upd S a (w.setRow b cs):=
 ⟨h.os,h.tape,h.output,by simpa using h.size,λ k hk hs=>by
  rw[setRow_other _ _ _ _ (by rintro rfl;rcases hb with q | q;exact hs q;omega)];exact h.block k hk hs⟩
theorem Cw8:(Tryz.prog.info? 366).map (·.size)=some 64:=by kernel_rfl
theorem w64{l:List Int}(h:l.length=64):(Tryz.prog.info? 366).map (·.size)=some (wvs l).toArray.size:=by rw[List.size_toArray,C8,h];exact Cw8
theorem Bo3(w:World):(Instr.build 366 #[(0,.int .u32 1116352408),(1,.int .u32 1899447441),(2,.int .u32 3049323471),(3,.int .u32 3921009573),(4,.int .u32 961987163),(5,.int .u32 1508970993),(6,.int .u32 2453635748),(7,.int .u32 2870763221),(8,.int .u32 3624381080),(9,.int .u32 310598401),(10,.int .u32 607225278),(11,.int .u32 1426881987),(12,.int .u32 1925078388),(13,.int .u32 2162078206),(14,.int .u32 2614888103),(15,.int .u32 3248222580),(16,.int .u32 3835390401),(17,.int .u32 4022224774),(18,.int .u32 264347078),(19,.int .u32 604807628),(20,.int .u32 770255983),(21,.int .u32 1249150122),(22,.int .u32 1555081692),(23,.int .u32 1996064986),(24,.int .u32 2554220882),(25,.int .u32 2821834349),(26,.int .u32 2952996808),(27,.int .u32 3210313671),(28,.int .u32 3336571891),(29,.int .u32 3584528711),(30,.int .u32 113926993),(31,.int .u32 338241895),(32,.int .u32 666307205),(33,.int .u32 773529912),(34,.int .u32 1294757372),(35,.int .u32 1396182291),(36,.int .u32 1695183700),(37,.int .u32 1986661051),(38,.int .u32 2177026350),(39,.int .u32 2456956037),(40,.int .u32 2730485921),(41,.int .u32 2820302411),(42,.int .u32 3259730800),(43,.int .u32 3345764771),(44,.int .u32 3516065817),(45,.int .u32 3600352804),(46,.int .u32 4094571909),(47,.int .u32 275423344),(48,.int .u32 430227734),(49,.int .u32 506948616),(50,.int .u32 659060556),(51,.int .u32 883997877),(52,.int .u32 958139571),(53,.int .u32 1322822218),(54,.int .u32 1537002063),(55,.int .u32 1747873779),(56,.int .u32 1955562222),(57,.int .u32 2024104815),(58,.int .u32 2227730452),(59,.int .u32 2361852424),(60,.int .u32 2428436474),(61,.int .u32 2756734187),(62,.int .u32 3204031479),(63,.int .u32 3329325298)]).run Tryz.prog w=.ok (.agg (wvs Bu6).toArray) w:=run_build w _ _ _ (by kernel_rfl)
attribute [-go_sem] loadCells storeCells Instr.build
theorem Bu8(w:World) :
  Calls Tryz.prog 280 #[] w λ e w'=>e=.returned (.agg (wvs Bu6).toArray)/\Upd [] w w':=by
 obtain⟨w1,hw1⟩:∃w1,w1=w.alloc (.cells (wvs (Ag8 [] 0)).toArray 366):=⟨_,rfl⟩;obtain⟨b,hb⟩:∃b,b=w.heap.size:=⟨_,rfl⟩;have h1:w1.heap[b]?=some (.cells (wvs (Ag8 [] 0)).toArray 366 (0,0)):=by rw[hw1,hb];exact A4 _
 have st:=N5 h1 (l:=wvs Bu6) (by rw[List.size_toArray,C8,C8,X8];rfl) (Am8 _);have hu:Upd [] w (w1.setRow b (wvs Bu6).toArray):=V7 (by rw[hw1];exact(Upd.refl _ _).alloc _) _ (.inr (by omega));have bp:=Bo3;have hkl:(wvs Bu6).length=64:=by rw[C8];rfl
 have hik:=w64 (l:=Bu6) rfl;rw[hw1,hb,← As3] at st;have H1:=η h1;have HU:=η hu;have HW:=η hw1;have HB:=η hb;clear h1 hu hw1 hb;go_enter Tryz.func280,Tryz.ntmps280
 go_wp2_with fail
 have hw1:=HW.out;have hb:=HB.out;rw[As3,← hw1,← hb];clear hw1 hb;refine bodyPost_ret (results_cell_row (p:=0) (ty:=366) ?_ _ _ b _ _ _ _ ?_ (setRow_heap _ _ _ _ _ _ H1.out) Tryz.underlying366 rfl hik) ?_ ?_
 ·rfl
 ·rfl
 ·rfl
 exact⟨rfl,HU.out⟩
end Go.Proofs.YtgfbepakonjbnaaGreat
end
section
set_option linter.unusedSimpArgs false
set_option linter.unusedVariables false
namespace Go.Proofs.YtgfbepakonjbnaaGreat
open Go.RowKit Go.MapKept Go.ChangeMaps
attribute [-go_sem] loadCells storeCells Instr.build
theorem Bu9{w:World}{hb0 o:Nat}{b:List UInt8}(hr:w.rangeAt hb0 o (bts b))(hl:b.length=64) :
  Calls Tryz.prog 281 #[.pointer (some ⟨hb0,o,none⟩)] w λ e w'=>e=.returned (.agg (wvs (V6 b 48)).toArray)/\Upd [] w w':=by
 obtain⟨wA,hwA⟩:∃wA,wA=(w.alloc (.cells (wvs (Ag8 [] 0)).toArray 366)).alloc (.cells (wvs (Ag8 [] 0)).toArray 366):=⟨_,rfl⟩;obtain⟨b2,hb2⟩:∃b,b=w.heap.size:=⟨_,rfl⟩;obtain⟨b3,hb3⟩:∃b,b=w.heap.size+1:=⟨_,rfl⟩;have hne:b2≠b3:=by omega
 have h2:wA.heap[b2]?=some (.cells (wvs (Ag8 [] 0)).toArray 366 (0,0)):=by rw[hwA,hb2,A6 (by simp)];exact A4 _
 have h3:wA.heap[b3]?=some (.cells (wvs (Ag8 b 0)).toArray 366 (0,0)):=by rw[hwA,hb3,show Ag8 b 0=Ag8 [] 0 from rfl];have:=A4 (w:=w.alloc (.cells (wvs (Ag8 [] 0)).toArray 366)) (.cells (wvs (Ag8 [] 0)).toArray 366);simpa using this
 have huA:Upd [] w wA:=by rw[hwA];exact((Upd.refl _ _).alloc _).alloc _
 have hhb:hb0<b3:=by
  have:hb0<w.heap.size:=block_lt_of_cell (hr 0 (bv (b[0]'(by omega))) (by simp[bts,hl]));omega
 have HR:=η hr;have HW:=η hwA;have HB2:=η hb2;have HB3:=η hb3;have H2:=η h2;have H3:=η h3;have HUA:=η huA;have HNE:=η hne;clear hwA hb2 hb3 h2 h3 huA hr hne;go_enter Tryz.func281,Tryz.ntmps281
 go_wp2_with fail
 have hwA:=HW.out;have hb2:=HB2.out;have hb3:=HB3.out;rw[As3,← hwA,← hb3,← hb2];clear hwA hb2 hb3;go_loopw [8] (λ i wr=>∃q:Nat,q<=16/\i=.int .i64 (q:Int)/\wr.heap[b3]?=some (.cells (wvs (Ag8 b q)).toArray 366 (0,0))/\Upd [b3] wA wr) (λ i _=>16-(intOf i).toNat)
 case atStart=>exact⟨0,by omega,rfl,H3.out,Upd.refl _ _⟩
 case round=>
  obtain⟨q,hq,rfl,hb,hu⟩:=hrel;rcases Nat.lt_or_ge q 16 with hlt | hge
  ·have hq16:decide ((q:Int)<16)=true:=decide_eq_true (by omega);obtain⟨p0,hp0⟩:∃p0,p0=4*q:=⟨_,rfl⟩;obtain⟨p1,hp1⟩:∃p1,p1=4*q+1:=⟨_,rfl⟩;obtain⟨p2,hp2⟩:∃p2,p2=4*q+2:=⟨_,rfl⟩;obtain⟨p3,hp3⟩:∃p3,p3=4*q+3:=⟨_,rfl⟩;have e0:IntKind.i64.wrap (4*(q:Int))=(p0:Int):=by rw[IntKind.wrap_i64];omega
   have e1:IntKind.i64.wrap ((p0:Int)+1)=(p1:Int):=by rw[IntKind.wrap_i64];omega
   have e2:IntKind.i64.wrap ((p0:Int)+2)=(p2:Int):=by rw[IntKind.wrap_i64];omega
   have e3:IntKind.i64.wrap ((p0:Int)+3)=(p3:Int):=by rw[IntKind.wrap_i64];omega
   have cell:∀p,p<64->wr.cell? ⟨hb0,o+p,none⟩=some (.int .u8 (byI b p)):=λ p hp=>by
    have hu2:Upd [b3] w wr:=⟨(HUA.out.late hu (λ k hk=> .inr (by simp at hk;have:=HB3.out;omega))).os,(HUA.out.late hu (λ k hk=> .inr (by simp at hk;have:=HB3.out;omega))).tape,(HUA.out.late hu (λ k hk=> .inr (by simp at hk;have:=HB3.out;omega))).output,(HUA.out.late hu (λ k hk=> .inr (by simp at hk;have:=HB3.out;omega))).size,λ k hk hs=>(HUA.out.late hu (λ k hk=> .inr (by simp at hk;have:=HB3.out;omega))).block k hk (by simp)⟩;have hc:=HR.out p (bv (b.getD p 0)) (by rw[Ah6,List.getD_eq_getElem?_getD,List.getElem?_eq_getElem (by omega)];rfl);have hlt:hb0<w.heap.size:=block_lt_of_cell hc;rw[World.cell?_of_block (w:=w) (hu2.block _ hlt (by simp;omega))];exact hc
   have wrapb:∀p,IntKind.u32.wrap (byI b p)=byI b p:=λ p=>by
    rw[IntKind.wrap_u32];unfold byI;have:=(b.getD p 0).toNat_lt;omega
   have m0:=cell p0 (by omega);have m1:=cell p1 (by omega);have m2:=cell p2 (by omega);have m3:=cell p3 (by omega);have v0:=wrapb p0;have v1:=wrapb p1;have v2:=wrapb p2;have v3:=wrapb p3;have hwd:Bk6 b q=bits .or .u32 (bits .or .u32 (bits .or .u32 (byI b p0*16777216 % 4294967296) (byI b p1*65536 % 4294967296)) (byI b p2*256 % 4294967296)) (byI b p3):=by unfold Bk6;rw[hp0,hp1,hp2,hp3]
   have g0:(0:Int)<=p0:=by omega
   have g1:(0:Int)<=p1:=by omega
   have g2:(0:Int)<=p2:=by omega
   have g3:(0:Int)<=p3:=by omega
   have k0:(p0:Int)<64:=by omega
   have k1:(p1:Int)<64:=by omega
   have k2:(p2:Int)<64:=by omega
   have k3:(p3:Int)<64:=by omega
   have kq:(q:Int)<64:=by omega
   have gq:(0:Int)<=q:=by omega
   have st:∀x:Int,(storeCells ⟨b3,q,none⟩ [.int .u32 x] 0).run Tryz.prog wr.drew=.ok () (wr.drew.setCell ⟨b3,q,none⟩ (.int .u32 x)):=λ x=>As4 (w:=wr.drew) hb q (by rw[List.size_toArray,C8,X8];omega) rfl;generalize byI b p0=c0 at m0 v0 hwd;generalize byI b p1=c1 at m1 v1 hwd;generalize byI b p2=c2 at m2 v2 hwd;generalize byI b p3=c3 at m3 v3 hwd;have HP:Hid (p0=4*q/\p1=4*q+1/\p2=4*q+2/\p3=4*q+3):=η ⟨hp0,hp1,hp2,hp3⟩;have HWD:=η hwd;have HBK:=η hb;have HUR:=η hu;clear hp0 hp1 hp2 hp3 cell wrapb hwd hb hu;go_wp2_with fail
   go_region
   have hwd:=HWD.out;rw[← hwd];have hbn:(wr.setCell ⟨b3,q,none⟩ (.int .u32 (Bk6 b q))).drew.heap[b3]?=some (.cells (wvs (Ag8 b (q+1))).toArray 366 (0,0)):=by
    show(wr.setCell ⟨b3,q,none⟩ (.int .u32 (Bk6 b q))).heap[b3]?=_
    rw[A8 HBK.out,Ag8,Bo2];simp
   have hun:Upd [b3] wA (wr.setCell ⟨b3,q,none⟩ (.int .u32 (Bk6 b q))).drew:=(HUR.out.set _ (.inl (by simp))).drew;have HBN:=η hbn;have HUN:=η hun;clear hwd hbn hun;go_wp2_with fail
   exact⟨⟨q+1,by omega,by simp,HBN.out,HUN.out⟩,by simp[intOf];omega⟩
  ·obtain rfl:q=16:=by omega
   have HBK:=η hb;have HUR:=η hu;clear hb hu;go_wp2_with fail
   go_loopw [5] (λ i wr=>∃q:Nat,q<=48/\i=.int .i64 ((16+q:Nat):Int)/\wr.heap[b3]?=some (.cells (wvs (V6 b q)).toArray 366 (0,0))/\Upd [b3] wA wr) (λ i _=>64-(intOf i).toNat)
   case atStart=>exact⟨0,by omega,rfl,by rw[V6];exact HBK.out,HUR.out⟩
   case round=>
    obtain⟨q,hq,rfl,hb,hu⟩:=hrel;obtain⟨n,hn⟩:∃n,n=16+q:=⟨_,rfl⟩;rw[← hn];rcases Nat.lt_or_ge q 48 with hlt | hge
    ·have hn64:decide ((n:Int)<64)=true:=decide_eq_true (by omega);obtain⟨n15,hn15⟩:∃k,k=n-15:=⟨_,rfl⟩;obtain⟨n2,hn2⟩:∃k,k=n-2:=⟨_,rfl⟩;obtain⟨n16,hn16⟩:∃k,k=n-16:=⟨_,rfl⟩;obtain⟨n7,hn7⟩:∃k,k=n-7:=⟨_,rfl⟩;have e15:IntKind.i64.wrap ((n:Int)-15)=(n15:Int):=by rw[IntKind.wrap_i64];omega
     have e2:IntKind.i64.wrap ((n:Int)-2)=(n2:Int):=by rw[IntKind.wrap_i64];omega
     have e16:IntKind.i64.wrap ((n:Int)-16)=(n16:Int):=by rw[IntKind.wrap_i64];omega
     have e7:IntKind.i64.wrap ((n:Int)-7)=(n7:Int):=by rw[IntKind.wrap_i64];omega
     obtain⟨n1,hn1⟩:∃k,k=n+1:=⟨_,rfl⟩;have cell:∀p,p<64->wr.cell? ⟨b3,p,none⟩=some (.int .u32 ((V6 b q).getD p 0)):=λ p hp=>by
      rw[A2 hb,List.getElem?_toArray,As2 _ (by rw[R4];omega)]
     have m15:=cell n15 (by omega);have m2:=cell n2 (by omega);have m16:=cell n16 (by omega);have m7:=cell n7 (by omega);have hnw:Ci9 (V6 b q) n=(((V6 b q).getD n16 0)+bits BinOp.xor IntKind.u32 (bits BinOp.xor IntKind.u32 (Ae5 33554432 128 ((V6 b q).getD n15 0)) (Ae5 16384 262144 ((V6 b q).getD n15 0))) (((V6 b q).getD n15 0) / 8)+((V6 b q).getD n7 0)+bits BinOp.xor IntKind.u32 (bits BinOp.xor IntKind.u32 (Ae5 32768 131072 ((V6 b q).getD n2 0)) (Ae5 8192 524288 ((V6 b q).getD n2 0))) (((V6 b q).getD n2 0) / 1024)) % 4294967296:=by unfold Ci9 xr;rw[hn16,hn15,hn7,hn2]
     have g15:(0:Int)<=n15:=by omega
     have g2:(0:Int)<=n2:=by omega
     have g16:(0:Int)<=n16:=by omega
     have g7:(0:Int)<=n7:=by omega
     have gn:(0:Int)<=n:=by omega
     have k15:(n15:Int)<64:=by omega
     have k2:(n2:Int)<64:=by omega
     have k16:(n16:Int)<64:=by omega
     have k7:(n7:Int)<64:=by omega
     have kn:(n:Int)<64:=by omega
     generalize (V6 b q).getD n15 0=x15 at m15 hnw;generalize (V6 b q).getD n2 0=x2 at m2 hnw;generalize (V6 b q).getD n16 0=x16 at m16 hnw;generalize (V6 b q).getD n7 0=x7 at m7 hnw;have en2:IntKind.i64.wrap ((n:Int)+1)=(n1:Int):=by rw[IntKind.wrap_i64];omega
     have en:wrap64 ((n:Int)+1)=(n1:Int):=by unfold wrap64;omega
     have HBK2:=η hb;have HUR2:=η hu;have HNW:=η hnw;have HN:=η hn;have HN1:=η hn1;have HLT:=η hlt;clear hn15 hn2 hn16 hn7 hn1 cell hb hu hnw hn hlt hq;go_wp2_with fail
     go_quiet (fail)
     obtain⟨wq,hwq⟩:∃wq,wq=wr.drewN nq:=⟨_,rfl⟩;rw[← hwq];have hbq:wq.heap[b3]?=some (.cells (wvs (V6 b q)).toArray 366 (0,0)):=by rw[hwq];exact HBK2.out
     have huq:Upd [b3] wA wq:=by rw[hwq];exact HUR2.out.drewN _
     have st:∀x:Int,(storeCells ⟨b3,n,none⟩ [.int .u32 x] 0).run Tryz.prog wq.drew=.ok () (wq.drew.setCell ⟨b3,n,none⟩ (.int .u32 x)):=λ x=>As4 (w:=wq.drew) hbq n (by rw[List.size_toArray,C8,R4];omega) rfl;have q16:wq.cell? ⟨b3,n16,none⟩=some (.int .u32 x16):=by rw[hwq];exact m16
     have q7:wq.cell? ⟨b3,n7,none⟩=some (.int .u32 x7):=by rw[hwq];exact m7
     have HBQ:=η hbq;have HUQ:=η huq;clear m16 m7 m15 m2 hwq hbq huq;go_wp2_with fail
     refine(Al0 _ (-7) 25 33554432 128 (by simp[Y6]) _).mono ?_;rintro e w' ⟨rfl,rfl⟩;go_wp2_with fail
     refine(Al0 _ (-18) 14 16384 262144 (by simp[Y6]) _).mono ?_;rintro e w' ⟨rfl,rfl⟩;go_wp2_with fail
     refine(Al0 _ (-17) 15 32768 131072 (by simp[Y6]) _).mono ?_;rintro e w' ⟨rfl,rfl⟩;go_wp2_with fail
     refine(Al0 _ (-19) 13 8192 524288 (by simp[Y6]) _).mono ?_;rintro e w' ⟨rfl,rfl⟩;go_wp2_with fail
     go_region
     have hnw:=HNW.out;rw[← hnw];have hn':=HN.out;have hn1':=HN1.out;have hbn:(wq.setCell ⟨b3,n,none⟩ (.int .u32 (Ci9 (V6 b q) n))).drew.heap[b3]?=some (.cells (wvs (V6 b (q+1))).toArray 366 (0,0)):=by
      show(wq.setCell ⟨b3,n,none⟩ (.int .u32 (Ci9 (V6 b q) n))).heap[b3]?=_
      rw[A8 HBQ.out,V6,Bo2,hn'];simp
     have hun:Upd [b3] wA (wq.setCell ⟨b3,n,none⟩ (.int .u32 (Ci9 (V6 b q) n))).drew:=(HUQ.out.set _ (.inl (by simp))).drew;have HBN:=η hbn;have HUN:=η hun;clear hnw hbn hun hn' hn1';go_wp2_with fail
     have hn':=HN.out;have hn1':=HN1.out;have hlt':=HLT.out;clear en en2 e15 e2 e16 e7;have he:n1=16+(q+1):=by omega
     have hq48:q+1<=48:=by omega
     have hme:64-(intOf (.int .i64 (n1:Int))).toNat<64-(intOf (.int .i64 (n:Int))).toNat:=by simp[intOf];omega
     refine⟨⟨.int .i64 (n1:Int),_,_,_,_,_,_,_,_,_,_,_,_,_,_,_,_,_,_,_,_,_,_,_,_,_,_,_,_,_,_,_,_,_,_,_,_,_,_,_,_,_,_,_,_,_,⟨q+1,hq48,by rw[he],HBN.out,HUN.out⟩,rfl⟩,hme⟩
    ·obtain rfl:q=48:=by omega
     obtain rfl:n=64:=hn;have HBK2:=η hb;have HUR2:=η hu;have lf:=Aq1 (n:=64) hb (by rw[C8,R4]);have h2r:=(hu.block _ (A3 H2.out) (by simpa using HNE.out)).trans H2.out;have st:=N5 h2r (l:=wvs (V6 b 48)) (by rw[List.size_toArray,C8,C8,X8,R4]) (Am8 _);have hkl:(wvs (V6 b 48)).length=64:=by rw[C8,R4]
     have hik:=w64 (R4 b 48);have HU:Hid (Upd [] w (wr.setRow b2 (wvs (V6 b 48)).toArray)):=by
      show Upd _ _ _
      have g2:=HB2.out;have g3:=HB3.out;have a1:Upd [] w wr:=HUA.out.late hu (λ k hk=> .inr (by simp at hk;omega));exact V7 a1 _ (.inr (by omega))
     have H2R:=η h2r;clear hb hu h2r hge hq;go_wp2_with fail
     refine bodyPost_ret (results_cell_row (p:=2) (ty:=366) ?_ _ _ b2 _ _ _ _ ?_ (setRow_heap _ _ _ _ _ _ H2R.out) Tryz.underlying366 rfl hik) ?_ ?_
     ·rfl
     ·rfl
     ·rfl
     exact⟨rfl,HU.out⟩
end Go.Proofs.YtgfbepakonjbnaaGreat
end
end
section
set_option linter.unusedSimpArgs false
set_option linter.unusedVariables false
namespace Go.Proofs.YtgfbepakonjbnaaGreat
open Go.RowKit Go.MapKept Go.ChangeMaps
section
attribute [-go_sem] loadCells storeCells Instr.build
theorem Ac3(x k s p q:Int)(hk:(k,s,p,q)∈Y6)(wr:World)(n:Nat) :
  Calls Tryz.prog 282 #[.int .u32 x,.int .i64 k] (wr.drewN n) λ e w''=>e=.returned (.int .u32 (Ae5 p q x))/\∃n,w''=wr.drewN n:=
 (Al0 x k s p q hk _).mono λ _ _ ⟨a,b⟩=>⟨a,n,b.symm⟩
def hcl(l:List Int)(wait:List UInt8)(n:Nat):List Value:=.bool true :: (wvs l++(bts wait ++ [.int .u64 (n:Int)]))
def hsC(H:Hs):List Value:=hcl H.st.l H.wait H.n
theorem Cw9(l:List Int)(wait:List UInt8)(n:Nat){q:Nat}(hq:q<l.length)(x:Int):(hcl l wait n).set (1+q) (.int .u32 x)=hcl (l.set q x) wait n:=by
 unfold hcl;rw[show 1+q=q+1 by omega,αc,List.set_append_left _ _ (by rw[C8];exact hq),Bo2]
theorem Cj2{w:World}{b:Nat}{l:List Int}{wait:List UInt8}{n:Nat}(h:w.heap[b]?=some (.cells (hcl l wait n).toArray 358 (0,0))){q:Nat}(hq:q<l.length)(x:Int) :
  (w.setCell ⟨b,1+q,none⟩ (.int .u32 x)).heap[b]?=some (.cells (hcl (l.set q x) wait n).toArray 358 (0,0)):=by
 rw[A8 h,← Cw9 l wait n hq x,αs]
theorem Cq5{w:World}{b:Nat}{H:Hs}(h:w.heap[b]?=some (.cells (hsC H).toArray 358 (0,0))):w.rangeAt b 9 (bts H.wait):=λ j u hj=>by
 rw[A2 h,List.getElem?_toArray];have hlt:=(List.getElem?_eq_some_iff.1 hj).1;unfold hsC hcl;rw[show 9+j=(j+8)+1 by omega,List.getElem?_cons_succ,List.getElem?_append_right (by rw[C8];simp[W8.l])];rw[show j+8-(wvs H.st.l).length=j by rw[C8];simp[W8.l],List.getElem?_append_left hlt];exact hj
theorem Cq6{w:World}{b:Nat}{H:Hs}(h:w.heap[b]?=some (.cells (hsC H).toArray 358 (0,0))):(loadCells ⟨b,1,none⟩ 8).run Tryz.prog w=.ok (wvs H.st.l).toArray w:=by
 have:=run_loadCells_list (P:=Tryz.prog) w ⟨b,1,none⟩ (wvs H.st.l) (λ j v hv=>by
  have hlt:=(List.getElem?_eq_some_iff.1 hv).1;rw[Addr.add_mid,A2 h,List.getElem?_toArray];unfold hsC hcl;rw[show 1+j=j+1 by omega,List.getElem?_cons_succ,List.getElem?_append_left hlt];exact hv)
 rwa [C8] at this
theorem Dc0:(#[.int .u32 0,.int .u32 0,.int .u32 0,.int .u32 0,.int .u32 0,.int .u32 0,.int .u32 0,.int .u32 0]:Array Value)=(wvs (List.replicate 8 0)).toArray:=by rfl
theorem Cq7:∀(x0 x1 x2 x3 x4 x5 x6 x7:Int) (w:World),(Instr.build 355 #[(0,.int .u32 x0),(1,.int .u32 x1),(2,.int .u32 x2),(3,.int .u32 x3),(4,.int .u32 x4),(5,.int .u32 x5),(6,.int .u32 x6),(7,.int .u32 x7)]).run Tryz.prog w=.ok (.agg #[.int .u32 x0,.int .u32 x1,.int .u32 x2,.int .u32 x3,.int .u32 x4,.int .u32 x5,.int .u32 x6,.int .u32 x7]) w:=λ x0 x1 x2 x3 x4 x5 x6 x7 w=>run_build w _ _ _ (by kernel_rfl)
structure Cb6(w1:World)(b2 b3 b4:Nat)(ks ws:List Int)(S:W8)(w:World):Prop where
 c4:w.heap[b4]?=some (.cells (wvs S.l).toArray 355 (0,0))
 c2:w.heap[b2]?=some (.cells (wvs ks).toArray 366 (0,0))
 c3:w.heap[b3]?=some (.cells (wvs ws).toArray 366 (0,0))
 upd:Upd [b4] w1 w
theorem Cb6.drewN{w1:World}{b2 b3 b4:Nat}{ks ws:List Int}{S:W8}{w:World}(h:Cb6 w1 b2 b3 b4 ks ws S w)(n:Nat):Cb6 w1 b2 b3 b4 ks ws S (w.drewN n):=⟨h.c4,h.c2,h.c3,h.upd.drewN n⟩
def Y7(b:Nat)(st ws ks:List Int):List (Nat × Nat × Value):=
 [(0,11,.agg (wvs ks).toArray),(1,12,.pointer (some ⟨b,0,none⟩)),(2,13,.pointer (some ⟨b,0,none⟩)),(3,14,.pointer (some ⟨b,9,none⟩)),(4,15,.agg (wvs ws).toArray),
 (5,16,.pointer (some ⟨b,0,none⟩)),(6,17,.pointer (some ⟨b,0,none⟩)),(7,18,.pointer (some ⟨b,1,none⟩)),(8,19,.agg (wvs st).toArray)]
def Al1(st ws ks z:List Int):List Ae4:=
 [⟨9,2,12,366,(wvs z).toArray,(wvs ks).toArray⟩,⟨10,3,13,366,(wvs z).toArray,(wvs ws).toArray⟩,
 ⟨11,4,14,355,(wvs (List.replicate 8 0)).toArray,(wvs st).toArray⟩]
theorem Cq8{w:World}{b:Nat}{H:Hs}(hb:w.heap[b]?=some (.cells (hsC H).toArray 358 (0,0)))(hw:H.wait.length=64) :
  Calls Tryz.prog 273 #[.pointer (some ⟨b,0,none⟩)] w λ e w'=>e=.returned (.tuple #[])/\
   w'.heap[b]?=some (.cells (hsC ⟨Cb4 H.st H.wait,H.wait,H.n⟩).toArray 358 (0,0))/\Upd [b] w w':=by
 obtain⟨ws,hws⟩:∃ws,V6 H.wait 48=ws:=⟨_,rfl⟩;obtain⟨ks,hks⟩:∃ks,Bu6=ks:=⟨_,rfl⟩;obtain⟨z,hz⟩:∃z,Ag8 [] 0=z:=⟨_,rfl⟩;have hwl:ws.length=64:=by rw[← hws];exact R4 _ _
 have hkl:ks.length=64:=by rw[← hks];rfl
 have hzl:z.length=64:=by rw[← hz];exact X8 _ _
 have hws64:(wvs ws).length=64:=by rw[C8];exact hwl
 have hks64:(wvs ks).length=64:=by rw[C8];exact hkl
 have HSP:∀w':World,w'.heap[b]?=some (.cells (hsC H).toArray 358 (0,0))->Calls Tryz.prog 281 #[.pointer (some ⟨b,9,none⟩)] w' λ e w2=>e=.returned (.agg (wvs ws).toArray)/\Upd [] w' w2:=λ w' hb'=>by rw[← hws];exact Bu9 (Cq5 hb') hw
 have HPR:∀w':World,Calls Tryz.prog 280 #[] w' λ e w2=>e=.returned (.agg (wvs ks).toArray)/\Upd [] w' w2:=λ w'=>by rw[← hks];exact Bu8 w'
 have HWS:=η hws;have HKS:=η hks;have HZ:=η hz;have HB:=η hb;clear hb hws hks hz;go_enter Tryz.func273,Tryz.ntmps273
 go_wp2_with fail
 refine Aa5 (Y7 b H.st.l ws ks) (Al1 H.st.l ws ks z) (by kernel_rfl) (by kernel_rfl) 127 rfl rfl ?_ ?_
 ·intro i o L tmps w' ho hI hL hd;have hi:i<15:=(Array.getElem?_eq_some_iff.1 ho).1;have hb':w'.heap[b]?=some (.cells (hsC H).toArray 358 (0,0)):=(hI.upd.block _ (A3 HB.out) (by simp)).trans HB.out;have t0:tmps[0]?.getD undef=.pointer (some ⟨b,0,none⟩):=(hI.old 0 (by rfl)).trans rfl;obtain rfl | rfl | rfl | rfl | rfl | rfl | rfl | rfl | rfl | rfl | rfl | rfl | rfl | rfl | rfl:i=0∨i=1∨i=2∨i=3∨i=4∨i=5∨i=6∨i=7∨i=8∨i=9∨i=10∨i=11∨i=12∨i=13∨i=14:=by omega
  ·cases ho
   refine wpOp_step rfl (λ K hK=>?_);go_simp;go_at_call 280
   refine(HPR _).mono ?_;rintro e w2 ⟨rfl,hu⟩;exact hK _ _ (hI.val_step 0 11 _ (by decide) hu (by simp[Y7]) (by kernel_rfl))
  ·cases ho
   refine wpOp_step rfl (λ K hK=>?_);go_simp;exact hK _ _ (hI.val_step 1 12 _ (by decide) (Upd.refl _ _) (by simp[Y7]) (by kernel_rfl))
  ·cases ho
   have t12:tmps[12]?.getD undef=.pointer (some ⟨b,0,none⟩):=hI.val (1,12,_) (by simp[Y7]) (hd ⟨1,.data⟩ (by simp) rfl);refine wpOp_step rfl (λ K hK=>?_);go_simp;exact hK _ _ (hI.val_step 2 13 _ (by decide) (Upd.refl _ _) (by simp[Y7]) (by kernel_rfl))
  ·cases ho
   have t13:tmps[13]?.getD undef=.pointer (some ⟨b,0,none⟩):=hI.val (2,13,_) (by simp[Y7]) (hd ⟨2,.data⟩ (by simp) rfl);refine wpOp_step rfl (λ K hK=>?_);go_simp;exact hK _ _ (hI.val_step 3 14 _ (by decide) (Upd.refl _ _) (by simp[Y7]) (by kernel_rfl))
  ·cases ho
   have t14:tmps[14]?.getD undef=.pointer (some ⟨b,9,none⟩):=hI.val (3,14,_) (by simp[Y7]) (hd ⟨3,.data⟩ (by simp) rfl);refine wpOp_step rfl (λ K hK=>?_);go_simp;go_at_call 281
   refine(HSP _ hb').mono ?_;rintro e w2 ⟨rfl,hu⟩;exact hK _ _ (hI.val_step 4 15 _ (by decide) hu (by simp[Y7]) (by kernel_rfl))
  ·cases ho
   refine wpOp_step rfl (λ K hK=>?_);go_simp;exact hK _ _ (hI.val_step 5 16 _ (by decide) (Upd.refl _ _) (by simp[Y7]) (by kernel_rfl))
  ·cases ho
   have t16:tmps[16]?.getD undef=.pointer (some ⟨b,0,none⟩):=hI.val (5,16,_) (by simp[Y7]) (hd ⟨5,.data⟩ (by simp) rfl);refine wpOp_step rfl (λ K hK=>?_);go_simp;exact hK _ _ (hI.val_step 6 17 _ (by decide) (Upd.refl _ _) (by simp[Y7]) (by kernel_rfl))
  ·cases ho
   have t17:tmps[17]?.getD undef=.pointer (some ⟨b,0,none⟩):=hI.val (6,17,_) (by simp[Y7]) (hd ⟨6,.data⟩ (by simp) rfl);refine wpOp_step rfl (λ K hK=>?_);go_simp;exact hK _ _ (hI.val_step 7 18 _ (by decide) (Upd.refl _ _) (by simp[Y7]) (by kernel_rfl))
  ·cases ho
   have t18:tmps[18]?.getD undef=.pointer (some ⟨b,1,none⟩):=hI.val (7,18,_) (by simp[Y7]) (hd ⟨7,.data⟩ (by simp) rfl);have ld:=Cq6 hb';refine wpOp_step rfl (λ K hK=>?_);go_simp;exact hK _ _ (hI.val_step 8 19 _ (by decide) (Upd.refl _ _) (by simp[Y7]) (by kernel_rfl))
  ·cases ho
   refine wpOp_step rfl (λ K hK=>?_);go_simp;rw[As3,HZ.out];exact hK _ _ (hI.alloc_step 9 2 _ _ (by decide) hL (by simp[Al1]) (by kernel_rfl))
  ·cases ho
   refine wpOp_step rfl (λ K hK=>?_);go_simp;rw[As3,HZ.out];exact hK _ _ (hI.alloc_step 10 3 _ _ (by decide) hL (by simp[Al1]) (by kernel_rfl))
  ·cases ho
   refine wpOp_step rfl (λ K hK=>?_);go_simp;rw[Dc0];exact hK _ _ (hI.alloc_step 11 4 _ _ (by decide) hL (by simp[Al1]) (by kernel_rfl))
  ·cases ho
   have tl:L 9=true:=hd ⟨9,.data⟩ (by simp) rfl;obtain⟨bk,e1,e2,e3⟩:=hI.blk ⟨9,2,12,366,(wvs z).toArray,(wvs ks).toArray⟩ (by simp[Al1]) tl;rw[show(if L (Ae4.st ⟨9,2,12,366,(wvs z).toArray,(wvs ks).toArray⟩)=true then Ae4.fin ⟨9,2,12,366,(wvs z).toArray,(wvs ks).toArray⟩ else Ae4.zero ⟨9,2,12,366,(wvs z).toArray,(wvs ks).toArray⟩)=(wvs z).toArray from by rw[if_neg (by rw[hL];simp)]] at e3;have ts:tmps[2]?.getD undef=.pointer (some ⟨bk,0,none⟩):=e1;have tv:tmps[11]?.getD undef=.agg (wvs ks).toArray:=hI.val (0,11,_) (by simp[Y7]) (hd ⟨0,.data⟩ (by simp) rfl);have st:=N5 e3 (l:=wvs ks) (by rw[List.size_toArray,C8,C8];rw[hkl,hzl]) (Am8 _);refine wpOp_step rfl (λ K hK=>?_);go_simp;exact hK _ _ (hI.store_step (t:=⟨9,2,12,366,(wvs z).toArray,(wvs ks).toArray⟩) (by simp[Al1]) e1 tl e2 (λ u hu hs=>by simp[Al1] at hu;rcases hu with rfl | rfl | rfl<;>first | rfl | (simp at hs)) (by kernel_rfl))
  ·cases ho
   have tl:L 10=true:=hd ⟨10,.data⟩ (by simp) rfl;obtain⟨bk,e1,e2,e3⟩:=hI.blk ⟨10,3,13,366,(wvs z).toArray,(wvs ws).toArray⟩ (by simp[Al1]) tl;rw[show(if L (Ae4.st ⟨10,3,13,366,(wvs z).toArray,(wvs ws).toArray⟩)=true then Ae4.fin ⟨10,3,13,366,(wvs z).toArray,(wvs ws).toArray⟩ else Ae4.zero ⟨10,3,13,366,(wvs z).toArray,(wvs ws).toArray⟩)=(wvs z).toArray from by rw[if_neg (by rw[hL];simp)]] at e3;have ts:tmps[3]?.getD undef=.pointer (some ⟨bk,0,none⟩):=e1;have tv:tmps[15]?.getD undef=.agg (wvs ws).toArray:=hI.val (4,15,_) (by simp[Y7]) (hd ⟨4,.data⟩ (by simp) rfl);have st:=N5 e3 (l:=wvs ws) (by rw[List.size_toArray,C8,C8];rw[hzl,hwl]) (Am8 _);refine wpOp_step rfl (λ K hK=>?_);go_simp;exact hK _ _ (hI.store_step (t:=⟨10,3,13,366,(wvs z).toArray,(wvs ws).toArray⟩) (by simp[Al1]) e1 tl e2 (λ u hu hs=>by simp[Al1] at hu;rcases hu with rfl | rfl | rfl<;>first | rfl | (simp at hs)) (by kernel_rfl))
  ·cases ho
   have tl:L 11=true:=hd ⟨11,.data⟩ (by simp) rfl;obtain⟨bk,e1,e2,e3⟩:=hI.blk ⟨11,4,14,355,(wvs (List.replicate 8 0)).toArray,(wvs H.st.l).toArray⟩ (by simp[Al1]) tl;rw[show(if L (Ae4.st ⟨11,4,14,355,(wvs (List.replicate 8 0)).toArray,(wvs H.st.l).toArray⟩)=true then Ae4.fin ⟨11,4,14,355,(wvs (List.replicate 8 0)).toArray,(wvs H.st.l).toArray⟩ else Ae4.zero ⟨11,4,14,355,(wvs (List.replicate 8 0)).toArray,(wvs H.st.l).toArray⟩)=(wvs (List.replicate 8 0)).toArray from by rw[if_neg (by rw[hL];simp)]] at e3;have ts:tmps[4]?.getD undef=.pointer (some ⟨bk,0,none⟩):=e1;have tv:tmps[19]?.getD undef=.agg (wvs H.st.l).toArray:=hI.val (8,19,_) (by simp[Y7]) (hd ⟨8,.data⟩ (by simp) rfl);have st:=N5 e3 (l:=wvs H.st.l) (by rw[List.size_toArray,C8,C8];rfl) (Am8 _);refine wpOp_step rfl (λ K hK=>?_);go_simp;exact hK _ _ (hI.store_step (t:=⟨11,4,14,355,(wvs (List.replicate 8 0)).toArray,(wvs H.st.l).toArray⟩) (by simp[Al1]) e1 tl e2 (λ u hu hs=>by simp[Al1] at hu;rcases hu with rfl | rfl | rfl<;>first | rfl | (simp at hs)) (by kernel_rfl))
 ·intro L tmps w1 hI hall;obtain⟨b2,e2,f2,h2⟩:=hI.blk ⟨9,2,12,366,(wvs z).toArray,(wvs ks).toArray⟩ (by simp[Al1]) (hall 9 (by decide));obtain⟨b3,e3,f3,h3⟩:=hI.blk ⟨10,3,13,366,(wvs z).toArray,(wvs ws).toArray⟩ (by simp[Al1]) (hall 10 (by decide));obtain⟨b4,e4,f4,h4⟩:=hI.blk ⟨11,4,14,355,(wvs (List.replicate 8 0)).toArray,(wvs H.st.l).toArray⟩ (by simp[Al1]) (hall 11 (by decide));rw[if_pos (hall 12 (by decide))] at h2;rw[if_pos (hall 13 (by decide))] at h3;rw[if_pos (hall 14 (by decide))] at h4;dsimp only at h2 h3 h4 f2 f3 f4 e2 e3 e4;have hu:=hI.upd;have hat:=hI.tmps_eq rfl [(2,.pointer (some ⟨b2,0,none⟩)),(3,.pointer (some ⟨b3,0,none⟩)),(4,.pointer (some ⟨b4,0,none⟩)),(11,.agg (wvs ks).toArray),(12,.pointer (some ⟨b,0,none⟩)),(13,.pointer (some ⟨b,0,none⟩)),(14,.pointer (some ⟨b,9,none⟩)),(15,.agg (wvs ws).toArray),
    (16,.pointer (some ⟨b,0,none⟩)),(17,.pointer (some ⟨b,0,none⟩)),(18,.pointer (some ⟨b,1,none⟩)),(19,.agg (wvs H.st.l).toArray)] (λ j hj=>by simp[okO,Y7,Al1] at hj ⊢;simp[hj]) (by
   intro p hp;simp only[List.mem_cons,List.not_mem_nil,or_false] at hp;rcases hp with rfl | rfl | rfl | rfl | rfl | rfl | rfl | rfl | rfl | rfl | rfl | rfl
   ·exact e2
   ·exact e3
   ·exact e4
   ·exact hI.val (0,11,_) (by simp[Y7]) (hall 0 (by decide))
   ·exact hI.val (1,12,_) (by simp[Y7]) (hall 1 (by decide))
   ·exact hI.val (2,13,_) (by simp[Y7]) (hall 2 (by decide))
   ·exact hI.val (3,14,_) (by simp[Y7]) (hall 3 (by decide))
   ·exact hI.val (4,15,_) (by simp[Y7]) (hall 4 (by decide))
   ·exact hI.val (5,16,_) (by simp[Y7]) (hall 5 (by decide))
   ·exact hI.val (6,17,_) (by simp[Y7]) (hall 6 (by decide))
   ·exact hI.val (7,18,_) (by simp[Y7]) (hall 7 (by decide))
   ·exact hI.val (8,19,_) (by simp[Y7]) (hall 8 (by decide)))
  dsimp only at hat;simp only[Af6,Array.replicate_succ,Array.replicate_zero,List.push_toArray,List.append_toArray,List.nil_append,List.cons_append,αs,αz,αc] at hat;have H2:=η h2;have H3:=η h3;have H4:=η h4;have HU:=η hu;have HF:Hid (w.heap.size<=b2/\w.heap.size<=b3/\w.heap.size<=b4):=η ⟨f2,f3,f4⟩;clear h2 h3 h4 hu f2 f3 f4 e2 e3 e4 hI hall;rw[hat];clear hat tmps;have hne2:b2≠b4:=by
   rintro rfl;have:=H2.out;rw[H4.out] at this;simp at this
  have hne3:b3≠b4:=by
   rintro rfl;have:=H3.out;rw[H4.out] at this;simp at this
  have HNE:Hid (b2≠b4/\b3≠b4):=η ⟨hne2,hne3⟩;clear hne2 hne3;go_wp2_with fail
  go_loopw [20] (λ i wr=>∃q:Nat,q<=64/\i=.int .i64 (q:Int)/\wr.heap[b4]?=some (.cells (wvs (Ap9 ws H.st q).l).toArray 355 (0,0))/\Upd [b4] w1 wr) (λ i _=>64-(intOf i).toNat)
  case atStart=>exact⟨0,by omega,rfl,H4.out,Upd.refl _ _⟩
  case round=>
   obtain⟨q,hq,rfl,hc,hu⟩:=hrel;rcases Nat.lt_or_ge q 64 with hlt | hge
   ·have hq64:decide ((q:Int)<64)=true:=decide_eq_true (by omega);obtain⟨S,hS⟩:∃S,Ap9 ws H.st q=S:=⟨_,rfl⟩;rw[hS] at hc;have HW:Hid (Cb6 w1 b2 b3 b4 ks ws S wr):=η ⟨hc,(hu.block _ (A3 H2.out) (by simpa using HNE.out.1)).trans H2.out,(hu.block _ (A3 H3.out) (by simpa using HNE.out.2)).trans H3.out,hu⟩;obtain⟨kq0,hkq⟩:∃k,ks.getD q 0=k:=⟨_,rfl⟩;obtain⟨wq0,hwq⟩:∃k,ws.getD q 0=k:=⟨_,rfl⟩;have hgk:(wvs ks)[q]?=some (.int .u32 kq0):=by rw[← hkq];exact As2 _ (by omega)
    have hgw:(wvs ws)[q]?=some (.int .u32 wq0):=by rw[← hwq];exact As2 _ (by omega)
    have gq:(0:Int)<=q:=by omega
    have kq:(q:Int)<64:=by omega
    have HS:=η hS;have HK:=η hkq;have HQ:=η hwq;have HLT:=η hlt;clear hc hu hq hS hkq hwq hlt;go_upto_region 4 with(fail)
    go_cut [6] (λ s6 wx=>s6=.int .u32 (Bu7 S)/\Cb6 w1 b2 b3 b4 ks ws S wx)
    case first=>
     rename_i J K hJ hK;have m4:wr.cell? ⟨b4,4,none⟩=some (.int .u32 S.e):=by rw[A2 HW.out.c4];rfl
     go_quiet ((go_at_call 282;first | (with_reducible exact Ac3 _ (-6) 26 67108864 64 (by simp[Y6]) _ _) | (with_reducible exact Ac3 _ (-11) 21 2097152 2048 (by simp[Y6]) _ _) | (with_reducible exact Ac3 _ (-25) 7 128 33554432 (by simp[Y6]) _ _)))
     simp only[show bits BinOp.xor IntKind.u32 (bits BinOp.xor IntKind.u32 (Ae5 67108864 64 S.e) (Ae5 2097152 2048 S.e)) (Ae5 128 33554432 S.e)=Bu7 S from by simp only[Bu7,xr]];refine hK _ _ (Met.intro (hJ _ _ ?_));repeat apply Exists.intro
     exact⟨⟨rfl,HW.out.drewN _⟩,rfl⟩
    case rest=>
    rename World=>wx
    obtain⟨rfl,hW⟩:=hcut;clear HW;have HW:=η hW;clear hW;obtain⟨U,hU⟩:∃U,Bu7 S=U:=⟨_,rfl⟩;rw[hU];have HUU:=η hU;clear hU;go_upto_region 5 with(fail)
    go_cut [7] (λ s7 wx=>s7=.int .u32 (Cj0 kq0 wq0 S)/\Cb6 w1 b2 b3 b4 ks ws S wx)
    case first=>
     rename_i J K hJ hK;have m4:wx.cell? ⟨b4,4,none⟩=some (.int .u32 S.e):=by rw[A2 HW.out.c4];rfl
     have m5:wx.cell? ⟨b4,5,none⟩=some (.int .u32 S.f):=by rw[A2 HW.out.c4];rfl
     have m6:wx.cell? ⟨b4,6,none⟩=some (.int .u32 S.g):=by rw[A2 HW.out.c4];rfl
     have m7:wx.cell? ⟨b4,7,none⟩=some (.int .u32 S.h):=by rw[A2 HW.out.c4];rfl
     have mk:wx.cell? ⟨b2,q,none⟩=some (.int .u32 kq0):=by rw[A2 HW.out.c2,List.getElem?_toArray];exact hgk
     have mw:wx.cell? ⟨b3,q,none⟩=some (.int .u32 wq0):=by rw[A2 HW.out.c3,List.getElem?_toArray];exact hgw
     go_quiet (fail)
     simp only[show((S.h+U+bits BinOp.xor IntKind.u32 (bits BinOp.and IntKind.u32 S.e S.f) (bits BinOp.and IntKind.u32 (bits BinOp.xor IntKind.u32 (if IntKind.u32.signed=true then -1 else IntKind.u32.max) S.e) S.g)+kq0) % 4294967296+wq0) % 4294967296=Cj0 kq0 wq0 S from by simp only[Cj0,xr,an,nt,HUU.out]];refine hK _ _ (Met.intro (hJ _ _ ?_));repeat apply Exists.intro
     exact⟨⟨rfl,HW.out.drewN _⟩,rfl⟩
    case rest=>
    rename World=>wy
    obtain⟨rfl,hW⟩:=hcut;clear HW;have HW:=η hW;clear hW;obtain⟨X,hX⟩:∃X,Cj0 kq0 wq0 S=X:=⟨_,rfl⟩;rw[hX];have HX:=η hX;clear hX;go_upto_region 6 with(fail)
    go_cut [8] (λ s8 wx=>s8=.int .u32 (As1 S)/\Cb6 w1 b2 b3 b4 ks ws S wx)
    case first=>
     rename_i J K hJ hK;have m0:wy.cell? ⟨b4,0,none⟩=some (.int .u32 S.a):=by rw[A2 HW.out.c4];rfl
     go_quiet ((go_at_call 282;first | (with_reducible exact Ac3 _ (-2) 30 1073741824 4 (by simp[Y6]) _ _) | (with_reducible exact Ac3 _ (-13) 19 524288 8192 (by simp[Y6]) _ _) | (with_reducible exact Ac3 _ (-22) 10 1024 4194304 (by simp[Y6]) _ _)))
     simp only[show bits BinOp.xor IntKind.u32 (bits BinOp.xor IntKind.u32 (Ae5 1073741824 4 S.a) (Ae5 524288 8192 S.a)) (Ae5 1024 4194304 S.a)=As1 S from by simp only[As1,xr]];refine hK _ _ (Met.intro (hJ _ _ ?_));repeat apply Exists.intro
     exact⟨⟨rfl,HW.out.drewN _⟩,rfl⟩
    case rest=>
    rename World=>wz
    obtain⟨rfl,hW⟩:=hcut;clear HW;have HW:=η hW;clear hW;obtain⟨DN,hDN⟩:∃D,As1 S=D:=⟨_,rfl⟩;rw[hDN];have HDN:=η hDN;clear hDN;have m0:wz.cell? ⟨b4,0,none⟩=some (.int .u32 S.a):=by rw[A2 HW.out.c4];rfl
    have m1:wz.cell? ⟨b4,1,none⟩=some (.int .u32 S.b):=by rw[A2 HW.out.c4];rfl
    have m2:wz.cell? ⟨b4,2,none⟩=some (.int .u32 S.c):=by rw[A2 HW.out.c4];rfl
    have m3:wz.cell? ⟨b4,3,none⟩=some (.int .u32 S.d):=by rw[A2 HW.out.c4];rfl
    have m4:wz.cell? ⟨b4,4,none⟩=some (.int .u32 S.e):=by rw[A2 HW.out.c4];rfl
    have m5:wz.cell? ⟨b4,5,none⟩=some (.int .u32 S.f):=by rw[A2 HW.out.c4];rfl
    have m6:wz.cell? ⟨b4,6,none⟩=some (.int .u32 S.g):=by rw[A2 HW.out.c4];rfl
    have m7:wz.cell? ⟨b4,7,none⟩=some (.int .u32 S.h):=by rw[A2 HW.out.c4];rfl
    go_upto_region 7 with(fail)
    go_cut [9] (λ s9 wx=>s9=.int .u32 (Cw7 S)/\wx=wz)
    case first=>
     rename_i J K hJ hK;go_wp2_with fail
     go_meet
     exact⟨by simp only[Cw7,ad,xr,an,HDN.out],rfl⟩
    case rest=>
    obtain⟨rfl,rfl⟩:=hcut;obtain⟨Y,hY⟩:∃Y,Cw7 S=Y:=⟨_,rfl⟩;rw[hY];have HY:=η hY;clear hY;have bl:=Cq7;have st:∀x0 x1 x2 x3 x4 x5 x6 x7:Int,(storeCells ⟨b4,0,none⟩ [.int .u32 x0,.int .u32 x1,.int .u32 x2,.int .u32 x3,.int .u32 x4,.int .u32 x5,.int .u32 x6,.int .u32 x7] 0).run Tryz.prog wc=.ok () (wc.setRow b4 #[.int .u32 x0,.int .u32 x1,.int .u32 x2,.int .u32 x3,.int .u32 x4,.int .u32 x5,.int .u32 x6,.int .u32 x7]):=λ x0 x1 x2 x3 x4 x5 x6 x7=>N5 HW.out.c4 (by rw[List.size_toArray,C8];rfl) (by simp[Value.oneCell']);go_upto_region 8 with(fail)
    go_wp2_with fail
    have hnew:(#[.int .u32 ((X+Y) % 4294967296),.int .u32 S.a,.int .u32 S.b,.int .u32 S.c,.int .u32 ((S.d+X) % 4294967296),.int .u32 S.e,.int .u32 S.f,.int .u32 S.g]:Array Value)=(wvs (Ap9 ws H.st (q+1)).l).toArray:=by
     rw[Ap9,HKS.out,HK.out,HQ.out,HS.out];simp only[rnd,W8.l,wvs,wv,List.map,HX.out,HY.out,ad]
    have hcn:=setRow_heap wc b4 _ #[.int .u32 ((X+Y) % 4294967296),.int .u32 S.a,.int .u32 S.b,.int .u32 S.c,.int .u32 ((S.d+X) % 4294967296),.int .u32 S.e,.int .u32 S.f,.int .u32 S.g] 355 (0,0) HW.out.c4;rw[hnew] at hcn ⊢;exact⟨⟨q+1,by have:=HLT.out;omega,by simp,hcn,V7 HW.out.upd _ (.inl (by simp))⟩,by have:=HLT.out;simp[intOf];omega⟩
   ·obtain rfl:q=64:=by omega
    obtain⟨S,hS⟩:∃S,Ap9 ws H.st 64=S:=⟨_,rfl⟩;rw[hS] at hc;have HC:=η hc;have HU3:=η hu;have HS:=η hS;have hbr:wr.heap[b]?=some (.cells (hcl (Aq0 H.st.l S.l 0) H.wait H.n).toArray 358 (0,0)):=by
     have h1:=HF.out;have hlt:=A3 HB.out;have hb1:w1.heap[b]?=w.heap[b]?:=HU.out.block b hlt (by simp);exact(hu.block b (by have:=HU.out.size;show b<w1.heap.size;exact Nat.lt_of_lt_of_le hlt this) (by simp;omega)).trans (hb1.trans HB.out)
    have HBR:=η hbr;clear hc hu hS hbr hge hq;go_wp2_with fail
    go_loopw [110] (λ i wy=>∃q:Nat,q<=8/\i=.int .i64 (q:Int)/\wy.heap[b]?=some (.cells (hcl (Aq0 H.st.l S.l q) H.wait H.n).toArray 358 (0,0))/\Upd [b] wr wy) (λ i _=>8-(intOf i).toNat)
    case atStart=>exact⟨0,by omega,rfl,HBR.out,Upd.refl _ _⟩
    case round=>
     rename World=>wy
     obtain⟨q,hq,rfl,hb,hu⟩:=hrel;rcases Nat.lt_or_ge q 8 with hlt | hge
     ·have hq8:decide ((q:Int)<8)=true:=decide_eq_true (by omega);have hne:b4≠b:=by have:=HF.out;have:=A3 HB.out;omega
      have hal:(Aq0 H.st.l S.l q).length=8:=by rw[Ay4];rfl
      have hc4:=(hu.block _ (A3 HC.out) (by simpa using hne)).trans HC.out;have m4:wy.cell? ⟨b4,q,none⟩=some (.int .u32 (S.l.getD q 0)):=by rw[A2 hc4,List.getElem?_toArray,As2 _ (by show q<8;exact hlt)]
      have mH:wy.cell? ⟨b,1+q,none⟩=some (.int .u32 ((Aq0 H.st.l S.l q).getD q 0)):=by
       rw[A2 hb,List.getElem?_toArray,hcl,show 1+q=q+1 by omega,List.getElem?_cons_succ,List.getElem?_append_left (by rw[C8,hal];exact hlt),As2 _ (by rw[hal];exact hlt)]
      have st:∀x:Int,(storeCells ⟨b,1+q,none⟩ [.int .u32 x] 0).run Tryz.prog wy.drew=.ok () (wy.drew.setCell ⟨b,1+q,none⟩ (.int .u32 x)):=λ x=>As4 (w:=wy.drew) hb (1+q) (by rw[List.size_toArray,hcl,List.length_cons,List.length_append,C8,hal];omega) rfl;have hset:∀x:Int,(wy.setCell ⟨b,1+q,none⟩ (.int .u32 x)).drew.heap[b]?=some (.cells (hcl ((Aq0 H.st.l S.l q).set q x) H.wait H.n).toArray 358 (0,0)):=λ x=>Cj2 hb (by rw[hal];exact hlt) x;have hun:∀x:Int,Upd [b] wr (wy.setCell ⟨b,1+q,none⟩ (.int .u32 x)).drew:=λ x=>(hu.set _ (.inl (by simp))).drew;have hstep:Aq0 H.st.l S.l (q+1)=(Aq0 H.st.l S.l q).set q (((Aq0 H.st.l S.l q).getD q 0+S.l.getD q 0) % 4294967296):=by rw[Aq0,ad]
      have gq:(0:Int)<=q:=by omega
      have kq:(q:Int)<8:=by omega
      have HSET:=λ x=>η (hset x);have HUN:=λ x=>η (hun x);have HST:=η hstep;have HLT:=η hlt;generalize (Aq0 H.st.l S.l q).getD q 0=x0 at mH hstep HST;generalize S.l.getD q 0=y0 at m4 hstep HST;clear hset hun hstep hlt hb hu hc4 hal hne hq;go_wp2_with fail
      go_region
      go_wp2_with fail
      exact⟨⟨q+1,by have:=HLT.out;omega,by simp,by rw[HST.out];exact(HSET _).out,(HUN _).out⟩,by have:=HLT.out;simp[intOf];omega⟩
     ·obtain rfl:q=8:=by omega
      have HEND:Hid (wy.heap[b]?=some (.cells (hsC ⟨Cb4 H.st H.wait,H.wait,H.n⟩).toArray 358 (0,0))/\Upd [b] w wy):=by
       refine η ⟨?_,?_⟩
       ·rw[hb,Cj1];show _=some (Obj.cells (hcl (Cb4 H.st H.wait).l H.wait H.n).toArray _ _)
        rw[Cb4,HWS.out,HS.out]
       ·have h1:=HF.out;have a1:Upd [] w w1:=⟨HU.out.os,HU.out.tape,HU.out.output,HU.out.size,HU.out.block⟩;have a2:Upd [] w wr:=a1.late HU3.out (λ k hk=> .inr (by simp at hk;omega));have a3:Upd [b] w wr:=⟨a2.os,a2.tape,a2.output,a2.size,λ k hk _=>a2.block k hk (by simp)⟩;exact a3.trans hu
      clear hb hu hge hq;go_wp2_with fail
      go_end0
      exact⟨rfl,HEND.out⟩
end
end Go.Proofs.YtgfbepakonjbnaaGreat
end
