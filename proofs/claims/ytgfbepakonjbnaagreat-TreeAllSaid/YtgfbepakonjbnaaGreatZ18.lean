/-
  cofferlaw9.Key, tree.onlyOK. A tree on sectors of which it is known which are taken; trees grown key by key. No program in sight.
-/
import Derived.Test.YtgfbepakonjbnaaGreatZ14
import Derived.Test.YtgfbepakonjbnaaGreatZ17
import Derived.Test.YtgfbepakonjbnaaGreatZ15
set_option maxRecDepth 100000
set_option maxHeartbeats 16000000
section
section
namespace Go.Proofs.YtgfbepakonjbnaaGreat
open Go.RowKit Go.MapKept Go.ChangeMaps
def u8I(x:Int):UInt8:=UInt8.ofNat (x % 256).toNat
def z32:Bs:=List.replicate 32 0
theorem Z3:z32.length=32:=rfl
def Ad0(k:Int):Bs:=((z32.set 0 (u8I (wrap64 (Int.tmod k 7*41)))).set 1 (u8I (k / 256))).set 31 (u8I k)
theorem X2(k:Int):(Ad0 k).length=32:=by unfold Ad0;rw[List.length_set,List.length_set,List.length_set,Z3]
theorem Bw7(x:Int):Value.int .u8 (x % 256)=Value.int .u8 (((x % 256).toNat:Nat):Int):=by
 rw[Int.toNat_of_nonneg (Int.emod_nonneg _ (by decide))]
theorem Cg9(x:Int):(x % 256).toNat<256:=by have:=Int.emod_lt_of_pos x (show(0:Int)<256 by decide);omega
theorem Cm1{w:World}{b:Nat}{C:Array Value}{T:TypeId}(h:w.heap[b]?=some (.cells C T (0,0)))(i:Nat){v:Value}(hi:i<C.size)(h1:v.oneCell'=true):(storeCells ⟨b,i,none⟩ [v] 0).run Tryz.prog w=.ok () (w.setCell ⟨b,i,none⟩ v):=by
 have hc:w.cell? ⟨b,i,none⟩=some C[i]:=by rw[A4 h];simp[hi]
 have hf:=E4 h i;have:=run_storeCells_cells (P:=Tryz.prog) b i [v] 0 w (by simp[hc]) (by simpa using hf) (by simpa using h1);simpa [World.setCells] using this
attribute [-go_sem] loadCells storeCells
theorem X3(r:Int)(w:World):Calls Tryz.prog 128 #[.int .u32 r,.int .i64 0] w λ e w'=>e=.returned (.tuple #[.int .u32 r,.int .i64 0])/\Upd [] w w':=by
 go_enter Tryz.func128,Tryz.ntmps128
 go_wp2_with fail
 go_ret2;exact⟨rfl,Upd.refl [] w⟩
theorem Cm2:(#[.int .u8 0,.int .u8 0,.int .u8 0,.int .u8 0,.int .u8 0,.int .u8 0,.int .u8 0,.int .u8 0,.int .u8 0,.int .u8 0,.int .u8 0,.int .u8 0,.int .u8 0,.int .u8 0,.int .u8 0,.int .u8 0,.int .u8 0,.int .u8 0,.int .u8 0,.int .u8 0,.int .u8 0,.int .u8 0,.int .u8 0,.int .u8 0,.int .u8 0,.int .u8 0,.int .u8 0,.int .u8 0,.int .u8 0,.int .u8 0,.int .u8 0,.int .u8 0]:Array Value)=(bts z32).toArray:=rfl
theorem Bi4{w:World}{b:Nat}{l:Bs}(h:w.heap[b]?=some (.cells (bts l).toArray 35 (0,0)))(i:Nat)(hi:i<l.length)(x:Int):(storeCells ⟨b,i,none⟩ [.int .u8 (x % 256)] 0).run Tryz.prog w=.ok () (w.setCell ⟨b,i,none⟩ (.int .u8 (x % 256)))/\(w.setCell ⟨b,i,none⟩ (.int .u8 (x % 256))).heap[b]?=some (.cells (bts (l.set i (u8I x))).toArray 35 (0,0)):=by
 refine⟨Cm1 h i (by rw[List.size_toArray,A8];exact hi) rfl,?_⟩;rw[Bw7];exact Y6 h i (Cg9 x)
theorem Ba0(k:Int)(w:World):Calls Tryz.prog 20 #[.int .i64 k] w λ e w'=>e=.returned (arr (Ad0 k))/\Upd [] w w':=by
 obtain⟨wA,hwA⟩:∃wA,wA=(w.alloc (.cells #[.int .u8 0,.int .u8 0,.int .u8 0,.int .u8 0,.int .u8 0,.int .u8 0,.int .u8 0,.int .u8 0,.int .u8 0,.int .u8 0,.int .u8 0,.int .u8 0,.int .u8 0,.int .u8 0,.int .u8 0,.int .u8 0,.int .u8 0,.int .u8 0,.int .u8 0,.int .u8 0,.int .u8 0,.int .u8 0,.int .u8 0,.int .u8 0,.int .u8 0,.int .u8 0,.int .u8 0,.int .u8 0,.int .u8 0,.int .u8 0,.int .u8 0,.int .u8 0] 35)).alloc (.cells #[.int .u8 0,.int .u8 0,.int .u8 0,.int .u8 0,.int .u8 0,.int .u8 0,.int .u8 0,.int .u8 0,.int .u8 0,.int .u8 0,.int .u8 0,.int .u8 0,.int .u8 0,.int .u8 0,.int .u8 0,.int .u8 0,.int .u8 0,.int .u8 0,.int .u8 0,.int .u8 0,.int .u8 0,.int .u8 0,.int .u8 0,.int .u8 0,.int .u8 0,.int .u8 0,.int .u8 0,.int .u8 0,.int .u8 0,.int .u8 0,.int .u8 0,.int .u8 0] 35):=⟨_,rfl⟩;obtain⟨b2,hb2⟩:∃b,b=w.heap.size:=⟨_,rfl⟩;obtain⟨b3,hb3⟩:∃b,b=w.heap.size+1:=⟨_,rfl⟩;have hne:b2≠b3:=by omega
 have h2:wA.heap[b2]?=some (.cells (bts z32).toArray 35 (0,0)):=by rw[hwA,hb2,A9 (by simp)];exact A6 _
 have h3:wA.heap[b3]?=some (.cells (bts z32).toArray 35 (0,0)):=by rw[hwA,hb3,Cm2];have:=A6 (w:=w.alloc (.cells (bts z32).toArray 35)) (.cells (bts z32).toArray 35);simpa using this
 have s1:=Bi4 h3 0 (by rw[Z3];omega) (wrap64 (Int.tmod k 7*41));have s2:=Bi4 s1.2 1 (by rw[List.length_set,Z3];omega) (k / 256);have s3:=Bi4 s2.2 31 (by rw[List.length_set,List.length_set,Z3];omega) k;obtain⟨w1,hw1⟩:∃w1,w1=wA.setCell ⟨b3,0,none⟩ (.int .u8 (wrap64 (Int.tmod k 7*41) % 256)):=⟨_,rfl⟩;rw[← hw1] at s1 s2 s3;obtain⟨wB,hwB⟩:∃w2,w2=w1.setCell ⟨b3,1,none⟩ (.int .u8 (k / 256 % 256)):=⟨_,rfl⟩;rw[← hwB] at s2 s3;obtain⟨wC,hwC⟩:∃w3,w3=wB.setCell ⟨b3,31,none⟩ (.int .u8 (k % 256)):=⟨_,rfl⟩;rw[← hwC] at s3;have u1:Upd [b3] wA w1:=by rw[hw1];exact(Upd.refl _ _).set _ (.inl (by simp))
 have u2:Upd [b3] wA wB:=by rw[hwB];exact u1.set _ (.inl (by simp))
 have u3:Upd [b3] wA wC:=by rw[hwC];exact u2.set _ (.inl (by simp))
 have h2C:=(u3.block _ (A2 h2) (by simpa using hne)).trans h2;have l3:=A7 (n:=32) s3.2 (by rw[A8];exact X2 k);have s4:=C7 h2C (l:=bts (Ad0 k)) (by rw[List.size_toArray,A8,A8,X2,Z3]) (G7 _);have r1:=s1.1;have r2:=s2.1;have r3:=s3.1;have HU:Hid (Upd [] w (wC.setRow b2 (bts (Ad0 k)).toArray)):=by
  show Upd _ _ _
  have a1:Upd [] w wA:=by rw[hwA];exact((Upd.refl _ _).alloc _).alloc _
  have a2:Upd [b2] wC (wC.setRow b2 (bts (Ad0 k)).toArray):=D5 (Upd.refl _ _) _ (.inl (by simp));exact(a1.late u3 (λ i hi=> .inr (by simp at hi;omega))).late a2 (λ i hi=> .inr (by simp at hi;omega))
 have H2C:=η h2C;have HW:=η hwA;have HB:=η (And.intro hb2 hb3);have rr:=@results_cell_row Tryz.prog;rw[hwA,hb3] at r1;rw[hb3] at r2 r3 l3;rw[hb2] at s4;have hik:(Tryz.prog.info? 35).map (·.size)=some (bts (Ad0 k)).toArray.size:=by rw[List.size_toArray,A8,X2];exact Ae0
 clear hwA hb3 h2 h3 s1 s2 s3 hw1 hwB hwC u1 u2 u3 h2C hne rr HW HB;have HB2:=η hb2;have el:Ad0 k=((z32.set 0 (u8I (wrap64 (Int.tmod k 7*41)))).set 1 (u8I (k / 256))).set 31 (u8I k):=rfl;rw[← el] at l3;clear el hb2;go_enter Tryz.func20,Tryz.ntmps20
 go_wp2_with fail
 have hb2:=HB2.out;rw[← hb2];refine bodyPost_ret (results_cell_row (p:=2) (ty:=35) ?_ _ _ b2 _ _ _ _ ?_ (setRow_heap _ _ _ _ _ _ H2C.out) Tryz.underlying35 rfl hik) ?_ ?_
 ·rfl
 ·rfl
 ·rfl
 exact⟨rfl,HU.out⟩
end Go.Proofs.YtgfbepakonjbnaaGreat
end
section
namespace Go.Proofs.YtgfbepakonjbnaaGreat
open Go.RowKit
structure N0(C:Nat->Sec)(h r:Nat)(l:List B0)(S:List Nat):Prop where
 at_:Ae2 C r l S
 nd:S.Nodup
 low:∀s,s∈S->4<=s/\s<h
 T:∀i,Af0 (Y5 (C 1)) i=(decide (i<4) || decide (i∈S))
theorem N0.sgT{g:Sg}{M:Nat->Option Sec}{h r:Nat}{l:List B0}{S:List Nat}(ht:N0 (g.cur M) h r l S)(i:Nat):g.T M i=(decide (i<4) || decide (i∈S)):=ht.T i
theorem N0.held{g:Sg}{M:Nat->Option Sec}{r:Nat}{l:List B0}{S:List Nat}(ht:N0 (g.cur M) g.h r l S):K7 g M S:=
 ⟨ht.nd,ht.low,λ s hs=>by rw[ht.sgT];simp[hs]⟩
theorem Ba1:∀h,N3 (λ i=>decide (i<4)) h=h-4
 | 0=>rfl
 | h+1=>by
  unfold N3;rw[Ba1 h];by_cases e:h<4
  ·rw[decide_eq_true e];simp;omega
  ·rw[decide_eq_false e];simp;omega
theorem An0{h:Nat}:∀{S:List Nat},S.Nodup->(∀s,s∈S->4<=s/\s<h)->N3 (λ i=>decide (i<4) || decide (i∈S)) h+S.length=h-4
 | [],_,_=>by
  have:(λ i=>decide (i<4) || decide (i∈([]:List Nat)))=λ i=>decide (i<4):=by funext i;simp
  rw[this,Ba1];simp
 | s :: S,hn,hl=>by
  have ih:=An0 (h:=h) (List.nodup_cons.1 hn).2 (λ x hx=>hl x (List.mem_cons_of_mem _ hx));have hs:=hl s (by simp);have:=Ah3 (T:=λ i=>decide (i<4) || decide (i∈S)) (T':=λ i=>decide (i<4) || decide (i∈s :: S)) (s:=s) (λ i=>by
   by_cases e:i=s
   ·subst e;simp
   ·simp[e]) (by simp[(List.nodup_cons.1 hn).1];omega) h
  rw[if_pos hs.2] at this;simp only[List.length_cons];omega
structure Ba2(C:Nat->Sec)(h r:Nat)(l:List B0)(S:List Nat):Prop where
 at_:Ae2 C r l S
 nd:S.Nodup
 low:∀s,s∈S->4<=s/\s<h
theorem Ba2.left{C:Nat->Sec}{h r:Nat}{l:List B0}{S:List Nat}(ht:Ba2 C h r l S):N3 (λ i=>decide (i<4) || decide (i∈S)) h+S.length=h-4:=An0 ht.nd ht.low
theorem N0.in_{C:Nat->Sec}{h r:Nat}{l:List B0}{S:List Nat}(ht:N0 C h r l S):Ba2 C h r l S:=⟨ht.at_,ht.nd,ht.low⟩
theorem N0.left{g:Sg}{M:Nat->Option Sec}{r:Nat}{l:List B0}{S:List Nat}(ht:N0 (g.cur M) g.h r l S):N3 (g.T M) g.h+S.length=g.h-4:=by
 have:g.T M=λ i=>decide (i<4) || decide (i∈S):=funext ht.sgT;rw[this];exact An0 ht.nd ht.low
theorem N0.put{g:Sg}{M M':Nat->Option Sec}{r r':Nat}{l:List B0}{S:List Nat}{key v:Bs}{m:Nat}(ht:N0 (g.cur M) g.h r l S)(hp:Aj2 g M M' r r' l S key v m):∃S',N0 (g.cur M') g.h r' (J8 l key v) S'/\Q6 g M M' S S' 4 m:=by
 obtain⟨S',h1,_,h3,_⟩:=hp;have hh:=h3.held ht.held;refine⟨S',⟨h1,hh.nd,hh.low,λ i=>?_⟩,h3⟩;show g.T M' i=_
 rw[h3.T,ht.sgT];by_cases e:i∈S
 ·simp[e,h3.sub i e]
 ·simp[e]
theorem Ca2{M:Nat->Option Sec}{h:Nat}{L:List Nat}(ho:MOk M h)(hL:∀i,(M i).isSome=true->i∈L):F2 M h<=L.length:=by
 unfold F2;exact(T8 M h).length_le_of_subset λ i hi=>hL i ((U9 ho).1 hi)
theorem Q6.some{g:Sg}{M M':Nat->Option Sec}{S S':List Nat}{n m:Nat}(h:Q6 g M M' S S' n m)(hM:∀i,(M i).isSome=true->i=1∨i∈S):∀i,(M' i).isSome=true->i=1∨i∈S':=λ i hi=>by
 by_cases e1:i=1
 ·exact .inl e1
 ·by_cases e2:i∈S'
  ·exact .inr e2
  ·rw[h.keep i e2 e1] at hi;exact .inr (((hM i hi).resolve_left e1) |> h.sub i)
theorem Bn6{M:Nat->Option Sec}{h:Nat}{S:List Nat}(ho:MOk M h)(hM:∀i,(M i).isSome=true->i=1∨i∈S):F2 M h+c1M M<=S.length+2:=by
 have:=Ca2 (L:=1 :: S) ho (λ i hi=>by rcases hM i hi with q | q<;>simp[q])
 have h2:c1M M<=1:=by unfold c1M;split<;>omega
 simp only[List.length_cons] at this;omega
def Ah5(k:Int):Bs:=z16.set 0 (u8I k)
theorem Aj3(k:Int):(Ah5 k).length=16:=by unfold Ah5;rw[List.length_set];rfl
def Aj4(l:List B0)(ks:List Int):List B0:=ks.foldl (λ l k=>J8 l (Ad0 k) (Ah5 k)) l
theorem Bt2(l:List B0)(ks:List Int)(k:Int):Aj4 l (ks ++ [k])=J8 (Aj4 l ks) (Ad0 k) (Ah5 k):=by unfold Aj4;rw[List.foldl_append];rfl
theorem Aj5(l:List B0)(key v:Bs):(J8 l key v).length<=l.length+1:=by rw[Ad8];split<;>omega
theorem Be7:∀(ks:List Int) (l:List B0),(Aj4 l ks).length<=l.length+ks.length
 | [],l=>by simp[Aj4]
 | k :: ks,l=>by
  have:=Be7 ks (J8 l (Ad0 k) (Ah5 k));have h2:=Aj5 l (Ad0 k) (Ah5 k);show(Aj4 (J8 l (Ad0 k) (Ah5 k)) ks).length<=_
  simp only[List.length_cons];omega
end Go.Proofs.YtgfbepakonjbnaaGreat
end
end
section
set_option linter.unusedSimpArgs false
set_option linter.unusedVariables false
namespace Go.Proofs.YtgfbepakonjbnaaGreat
open Go.RowKit Go.MapKept Go.ChangeMaps
section
theorem Bn7:∀(d:Nat) {w:World} {g:Sg} {M:Nat->Option Sec} (_:B7 w g M) {root:Bool} {a:Nat} {l:List B0} {S:List Nat} (_:E3 (g.cur M) root d a l S) (_:K7 g M S) (key v:Bs) (_:key.length=32) (_:v.length=16) (deep:Int) (_:(d:Int)+1<=deep) (_:deep<=16) (_:1<g.h) (_:g.h<=4096) (_:(F2 M g.h+c1M M+(2*d+2)<=40/\d+1<=N3 (g.T M) g.h)∨(d=0/\l.length<=8/\F2 M g.h<40)),
  Calls Tryz.prog 131 #[.pointer (some ⟨g.x.tb,0,none⟩),.int .u32 (a:Int),arr key,arr v,.int .i64 deep] w (Av0 g M root d a l S key v w)
 | 0,w,g,M,h,root,a,l,S,hs,hh,key,v,hkey,hv,deep,hd0,hd1,hh1,hh2,hres=>by
  have hlow:=hh.low a hs.mem.1;have hlt:=hs.mem.2;have hd:(deep == 0)=false:=by rw[beq_eq_false_iff_ne];omega
  cases ht:I4 (l.map (·.1)) key
  ·exact Cg8 h a hlow.2 hlt hs.2.2.1 hs.2.2.2.1 key v hkey hv deep hd ht rfl hh1 hh2 (.inr (by omega)) (λ q=>by rw[List.length_map] at q;omega) rfl rfl
    (λ hr=>Bt0 hs hh h.ok hkey hv ht hr)
    (λ hr k' s hk' h4 hsh hT ho1 ho2=>Bt1 hs hh h.ok (h.cur_len 1) hh1 hh2 hkey hv ht hr rfl rfl hk' h4 hsh hT ho1 ho2)
  ·refine(Bz7 h a hlow.2 hlt hs.2.2.1 hs.2.2.2.1 key v hkey hv deep hd (.inr (by omega)) ht rfl).mono λ e w' ⟨e1,e2,e3⟩=>?_;exact⟨_,none,e1,Bn1 hs hh h.ok hkey hv ht,e2,e3⟩
 | d+1,w,g,M,h,root,a,l,S,hs,hh,key,v,hkey,hv,deep,hd0,hd1,hh1,hh2,hres=>by
  have hlow:=hh.low a hs.mem.1;have hlt:=hs.mem.2;obtain⟨ks,ds,kid,lc,Sc,hA⟩:=hs.at (key:=key) (v:=v) hh;refine Cm0 h a hlow.2 hlt hA.ok hA.enc key v hkey hv deep (by omega) hd1 hA hh1 hh2 (by omega) (by omega) (λ w' h'=>?_);exact Bn7 d h' hA.shape hA.held key v hkey hv (deep-1) (by omega) (by omega) hh1 hh2 (.inl ⟨by omega,by omega⟩)
attribute [-go_sem] loadCells storeCells Instr.build Instr.buildSlice
theorem Bn8(a a':Option Addr)(n c n' c':Nat)(w:World):(Instr.build 220 #[(0,.int .i64 1),(1,.slice a n c),(2,.slice a' n' c')]).run Tryz.prog w=.ok (.agg #[.int .i64 1,.slice a n c,.slice a' n' c',.slice none 0 0]) w:=run_build w _ _ _ (by kernel_rfl)
theorem Bc5(a b:Int)(w:World):(Instr.buildSlice 218 2 #[(0,.int .u32 a),(1,.int .u32 b)]).run Tryz.prog w=.ok (.slice (some ⟨w.heap.size,0,none⟩) 2 2) (w.alloc (.cells #[.int .u32 a,.int .u32 b] 79)):=by kernel_rfl
theorem Bn9{w:World}{b:Nat}{key:Bs}(hk:key.length=32)(h:w.heap[b]?=some (.cells (bts key).toArray 35 (0,0))):C3 w b (.slice (some ⟨b,0,none⟩) 1 1) [key]:=by
 refine⟨by simp[hk],.inr ⟨b,1,_,rfl,Nat.le_refl _,h,Nat.le_refl _,by decide,by simp[hk],?_⟩⟩;simp only[List.length_cons,List.length_nil,List.map_cons,List.map_nil,List.flatten_cons,List.flatten_nil,List.append_nil];exact List.take_of_length_le (by rw[A8,hk];omega)
theorem Ch0{w:World}{b:Nat}{key:Bs}(hk:key.length=16)(h:w.heap[b]?=some (.cells (bts key).toArray 115 (0,0))):F7 w b (.slice (some ⟨b,0,none⟩) 1 1) [key]:=by
 refine⟨by simp[hk],.inr ⟨b,1,_,rfl,Nat.le_refl _,h,Nat.le_refl _,by decide,by simp[hk],?_⟩⟩;simp only[List.length_cons,List.length_nil,List.map_cons,List.map_nil,List.flatten_cons,List.flatten_nil,List.append_nil];exact List.take_of_length_le (by rw[A8,hk];omega)
theorem Ch1{w:World}{k a b:Nat}(h:w.heap[k]?=some (.cells #[.int .u32 (a:Int),.int .u32 (b:Int)] 79 (0,0))):D8 w k (.slice (some ⟨k,0,none⟩) 2 2) [a,b]:=
 ⟨rfl,.inr ⟨k,2,_,rfl,Nat.le_refl _,h,Nat.le_refl _,by decide,rfl,rfl⟩⟩
theorem Ca3{w:World}{g:Sg}{M:Nat->Option Sec}(h:B7 w g M)(hh1:1<g.h)(hh2:g.h<=4096)(key v:Bs)(hkey:key.length=32)(hv:v.length=16)(hres:F2 M g.h+c1M M+1<=40)(hleft:1<=N3 (g.T M) g.h) :
  Calls Tryz.prog 58 #[.pointer (some ⟨g.x.tb,0,none⟩),.int .u32 0,arr key,arr v] w λ e w'=>∃s:Nat,4<=s/\s<g.h/\g.Fr M s/\e=.returned (.tuple #[.int .u32 (s:Int),.int .i64 0])/\B7 w' g (F1 (Q5 g M s) s (C8 [key] [v]))/\Upd g.S w w':=by
 have hb:((g.h:Int) == 0)=false:=by rw[beq_eq_false_iff_ne];omega
 have hhb:=hh2;obtain⟨wA,hwA⟩:∃wA,wA=(w.alloc (.cells (bts key).toArray 35)).alloc (.cells (bts v).toArray 115):=⟨_,rfl⟩;have huA:Upd [] w wA:=by rw[hwA];exact((Upd.refl _ _).alloc _).alloc _
 have hA:=h.below huA;have H6:Hid (wA.heap[w.heap.size]?=some (.cells (bts key).toArray 35 (0,0))):=by
  show wA.heap[_]?=_
  rw[hwA,A9 (by simp)];exact A6 _
 have H7:Hid (wA.heap[w.heap.size+1]?=some (.cells (bts v).toArray 115 (0,0))):=by
  show wA.heap[_]?=_
  rw[hwA];have:=A6 (w:=w.alloc (.cells (bts key).toArray 35)) (.cells (bts v).toArray 115);simpa using this
 have HO:=η (T3 hA);have HA:=η hA;have HUA:=η huA;have HW:=η hwA;clear h hA huA hwA;unfold arr;go_enter Tryz.func58,Tryz.ntmps58
 go_wp2_with fail
 have hwA:=HW.out;rw[← hwA];clear hwA;refine HO.out.mono ?_;rintro e w1 ⟨rfl,n1,hn1⟩;have hu1:Upd [] wA w1:=by rw[hn1];exact(Upd.refl _ _).drewN _
 have h1:=HA.out.below hu1;have HTK:=η (Az6 h1 hh1 hh2 (.inr (by omega)) hleft);have HU1:=η (HUA.out.trans hu1);have H61:=η ((hu1.block _ (A2 H6.out) (by simp)).trans H6.out);have H71:=η ((hu1.block _ (A2 H7.out) (by simp)).trans H7.out);have H1:=η h1;clear hn1 hu1 h1;go_wp2_with fail
 refine HTK.out.mono ?_;rintro e w2 ⟨s,hs4,hsh,hsT,rfl,h2,hu2⟩;have h6:=(hu2.block _ (A2 H61.out) (H1.out.other9 H61.out (.inr (.inr (.inl rfl))))).trans H61.out;have h7:=(hu2.block _ (A2 H71.out) (H1.out.other9 H71.out (.inr (.inr (.inr (.inl rfl)))))).trans H71.out;have l6:=A7 (n:=32) h6 (by rw[A8,hkey]);have l7:=A7 (w:=w2.alloc (.cells (bts key).toArray 35)) (n:=16) ((A9 (A2 h7)).trans h7) (by rw[A8,hv]);have bk:=Ao7 hkey w2;have bw:=Bw3 hv (w2.alloc (.cells (bts key).toArray 35));rw[show(w2.alloc (.cells (bts key).toArray 35)).heap.size=w2.heap.size+1 by simp] at bw;have bn:=Bn8;obtain⟨w5,hw5⟩:∃w5,w5=((w2.alloc (.cells (bts key).toArray 35)).alloc (.cells (bts v).toArray 115)).alloc (.cells #[.int .i64 1,.slice (some ⟨w2.heap.size,0,none⟩) 1 1,.slice (some ⟨w2.heap.size+1,0,none⟩) 1 1,.slice none 0 0] 220):=⟨_,rfl⟩;have st:=L6 ((w2.alloc (.cells (bts key).toArray 35)).alloc (.cells (bts v).toArray 115)) (some ⟨w2.heap.size,0,none⟩) (some ⟨w2.heap.size+1,0,none⟩) none 1 1 1 1 1 0 0;rw[← hw5,show((w2.alloc (.cells (bts key).toArray 35)).alloc (.cells (bts v).toArray 115)).heap.size=w2.heap.size+1+1 by simp] at st;have hu5:Upd [] w2 w5:=by rw[hw5];exact(((Upd.refl _ _).alloc _).alloc _).alloc _
 have k5:w5.heap[w2.heap.size]?=some (.cells (bts key).toArray 35 (0,0)):=by rw[hw5,A9 (by simp;omega),A9 (by simp)];exact A6 _
 have v5:w5.heap[w2.heap.size+1]?=some (.cells (bts v).toArray 115 (0,0)):=by
  rw[hw5,A9 (by simp)];have:=A6 (w:=w2.alloc (.cells (bts key).toArray 35)) (.cells (bts v).toArray 115);simpa using this
 have n5:w5.heap[w2.heap.size+1+1]?=some (.cells #[.int .i64 1,.slice (some ⟨w2.heap.size,0,none⟩) 1 1,.slice (some ⟨w2.heap.size+1,0,none⟩) 1 1,.slice none 0 0] 220 (0,0)):=by
  rw[hw5];have:=A6 (w:=(w2.alloc (.cells (bts key).toArray 35)).alloc (.cells (bts v).toArray 115)) (.cells #[.int .i64 1,.slice (some ⟨w2.heap.size,0,none⟩) 1 1,.slice (some ⟨w2.heap.size+1,0,none⟩) 1 1,.slice none 0 0] 220);simpa using this
 have l5:=A7 (n:=4) (cs:=[.int .i64 1,.slice (some ⟨w2.heap.size,0,none⟩) 1 1,.slice (some ⟨w2.heap.size+1,0,none⟩) 1 1,.slice none 0 0]) n5 rfl;have ws:IntKind.u32.wrap (s:Int)=(s:Int):=by rw[IntKind.wrap_u32];omega
 have hok:K5 [key] [v]:=⟨by simpa using hkey,by simpa using hv,rfl,by simp⟩;have hcn:=Ao8 (g:=g) (M:=M) s H1.out.ok hh1;have HWR:=η (Ah0 (h2.below hu5) (vd:=.slice none 0 0) (C3.rd (Bn9 hkey k5) hok.k) (F7.rd (Ch0 hv v5) hok.v) hok s hsh (by omega) (.inr (by rw[hcn];omega)));have HU5:=η (((HU1.out.mono (by simp)).trans hu2).trans (hu5.mono (by simp)));have HT:=η hsT;clear h2 hu2 h6 h7 hw5 hu5 k5 v5 n5 hok hcn hsT;go_wp2_with fail
 refine HWR.out.mono ?_;rintro e w6 ⟨rfl,h6,hu6⟩;have H6':=η h6;have HU6:=η (HU5.out.trans (hu6.mono g.memw));clear h6 hu6;go_wp2_with fail
 refine(X3 _ w6).mono ?_;rintro e w7 ⟨rfl,hu7⟩;have H7':=η (H6'.out.below hu7);have HU7:=η (HU6.out.trans (hu7.mono (by simp)));clear hu7;go_wp2_with fail
 go_ret2;exact⟨s,hs4,hsh,HT.out,rfl,H7'.out,HU7.out⟩
theorem Cq9:(#[.int .u8 0,.int .u8 0,.int .u8 0,.int .u8 0,.int .u8 0,.int .u8 0,.int .u8 0,.int .u8 0,.int .u8 0,.int .u8 0,.int .u8 0,.int .u8 0,.int .u8 0,.int .u8 0,.int .u8 0,.int .u8 0,.int .u8 0,.int .u8 0,.int .u8 0,.int .u8 0,.int .u8 0,.int .u8 0,.int .u8 0,.int .u8 0,.int .u8 0,.int .u8 0,.int .u8 0,.int .u8 0,.int .u8 0,.int .u8 0,.int .u8 0,.int .u8 0,.int .u32 0,.bool false]:Array Value)=(K4 none).toArray:=rfl
theorem Ch2{w:World}{g:Sg}{M:Nat->Option Sec}(h:B7 w g M)(hh1:1<g.h)(hh2:g.h<=4096){r:Nat}(hr:r≠0)(hr4:r<4294967296){d:Nat}{l:List B0}{S:List Nat}(hs:E3 (g.cur M) true d r l S)(hh:K7 g M S)(hd2:d<=2)(key v:Bs)(hkey:key.length=32)(hv:v.length=16)(hres:(F2 M g.h+c1M M+7<=40/\4<=N3 (g.T M) g.h)∨(d=0/\l.length<=8/\F2 M g.h<40)) :
  Calls Tryz.prog 58 #[.pointer (some ⟨g.x.tb,0,none⟩),.int .u32 (r:Int),arr key,arr v] w λ e w'=>∃M' r',e=.returned (.tuple #[.int .u32 ((r':Nat):Int),.int .i64 0])/\Aj2 g M M' r r' l S key v 7/\B7 w' g M'/\Upd g.S w w':=by
 have hb:((g.h:Int) == 0)=false:=by rw[beq_eq_false_iff_ne];omega
 have hrb:((r:Int) == 0)=false:=by rw[beq_eq_false_iff_ne];omega
 have hhb:=hh2;obtain⟨wA,hwA⟩:∃wA,wA=(w.alloc (.cells (bts key).toArray 35)).alloc (.cells (bts v).toArray 115):=⟨_,rfl⟩;have huA:Upd [] w wA:=by rw[hwA];exact((Upd.refl _ _).alloc _).alloc _
 have hA:=h.below huA;have H6:Hid (wA.heap[w.heap.size]?=some (.cells (bts key).toArray 35 (0,0))):=by
  show wA.heap[_]?=_
  rw[hwA,A9 (by simp)];exact A6 _
 have H7:Hid (wA.heap[w.heap.size+1]?=some (.cells (bts v).toArray 115 (0,0))):=by
  show wA.heap[_]?=_
  rw[hwA];have:=A6 (w:=w.alloc (.cells (bts key).toArray 35)) (.cells (bts v).toArray 115);simpa using this
 have HO:=η (T3 hA);have HA:=η hA;have HUA:=η huA;have HW:=η hwA;have HSH:=η hs;have HH:=η hh;clear h hA huA hwA hs hh;unfold arr;go_enter Tryz.func58,Tryz.ntmps58
 go_wp2_with fail
 have hwA:=HW.out;rw[← hwA];clear hwA;refine HO.out.mono ?_;rintro e w1 ⟨rfl,n1,hn1⟩;have hu1:Upd [] wA w1:=by rw[hn1];exact(Upd.refl _ _).drewN _
 have h1:=HA.out.below hu1;have h6:=(hu1.block _ (A2 H6.out) (by simp)).trans H6.out;have h7:=(hu1.block _ (A2 H7.out) (by simp)).trans H7.out;have l6:=A7 (n:=32) h6 (by rw[A8,hkey]);have l7:=A7 (n:=16) h7 (by rw[A8,hv]);have HPC:=η (Bn7 d h1 HSH.out HH.out key v hkey hv 16 (by omega) (by omega) hh1 hh2 (by omega));have HU1:=η (HUA.out.trans hu1);clear hn1 hu1 h1 h6 h7;unfold arr at HPC;go_wp2_with fail
 refine HPC.out.mono ?_;rintro e w2 ⟨M1,o,rfl,hPA,h2,hu2⟩;have hol:∀k b,o=some (k,b)->k.length=32:=by
  intro k b e;subst e;obtain⟨_,_,_,_,_,_,q,_⟩:=hPA;exact q
 obtain⟨w3,hw3⟩:∃w3,w3=(w2.alloc (.cells (K4 none).toArray 228)).setRow w2.heap.size (K4 o).toArray:=⟨_,rfl⟩;have s13:=C7 (A6 (w:=w2) (.cells (K4 none).toArray 228)) (l:=K4 o) (by rw[List.size_toArray,M4 _ hol,M4 _ (by simp)]) (V5 _);rw[← hw3,← Cq9] at s13;have c13:w3.heap[w2.heap.size]?=some (.cells (K4 o).toArray 228 (0,0)):=by rw[hw3];exact setRow_heap _ _ _ _ _ _ (A6 _)
 have hu3:Upd [] w2 w3:=by
  rw[hw3,N8];exact(Upd.refl _ _).alloc _
 have HU3:=η (((HU1.out.mono (by simp)).trans hu2).trans (hu3.mono (by simp)));have H3:=η (h2.below hu3);clear h2 hu2 hu3 hw3 hol;unfold Az5;cases o with
 | none=>
  have m13:w3.cell? ⟨w2.heap.size,33,none⟩=some (.bool false):=A4 c13 33;have HPA:=η hPA;clear c13 hPA;go_wp2_with fail
  refine(X3 _ _).mono ?_;rintro e w7 ⟨rfl,hu7⟩;have H7':=η (H3.out.below hu7);have HU7:=η (HU3.out.trans (hu7.mono (by simp)));clear hu7;go_wp2_with fail
  go_ret2;exact⟨M1,r,rfl,Bi1 hr hd2 HPA.out (by omega),H7'.out,HU7.out⟩
 | some p=>
  obtain⟨k',b⟩:=p;have hk':k'.length=32:=by
   obtain⟨_,_,_,_,_,_,q,_⟩:=hPA;exact q
  have hz:(K4 (some (k',b))).length=34:=M4 _ (by intro x y e;cases e;exact hk');have hres:F2 M g.h+c1M M+7<=40/\4<=N3 (g.T M) g.h:=by
   rcases hres with q | ⟨rfl,q,_⟩
   ·exact q
   ·exfalso
    obtain⟨_,l1,l2,S1,S2,el,_,q1,q2,_⟩:=hPA;have e1:=congrArg List.length el;rw[List.length_append] at e1;have e2:=Aj5 l key v;have e3:5<=l1.length:=q1.2.2.2.2.1;have e4:5<=l2.length:=q2.2.2.2.2.1;omega
  obtain⟨S1,hG⟩:=hPA.grown;have hcn:=hG.cnt;have hlf:=hG.left;have hln:=hG.len;obtain⟨m13,m14,r13⟩:=Z2 hk' c13;have HTK:=η (Az6 H3.out hh1 hh2 (.inr (by omega)) (by omega));have HPA:=η hPA;have H13:=η c13;have HCN:Hid (F2 M1 g.h+c1M M1+1<=40):=by show _<=_;omega
  clear c13 hPA hG hcn hlf hln m14 r13;go_wp2_with fail
  refine HTK.out.mono ?_;rintro e w4 ⟨s,hs4,hsh,hsT,rfl,h4,hu4⟩;have c13:=(hu4.block _ (A2 H13.out) (H3.out.other9 H13.out (.inl rfl))).trans H13.out;obtain⟨m13',m14,r13⟩:=Z2 hk' c13;have l13:=B2 r13 hk';have bk:=Ao7 hk' w4;have m14':=D7 (w':=w4.alloc (.cells (bts k').toArray 35)) m14 ((Upd.refl [] _).alloc _) (by simp);have bw:=Bc5 (r:Int) (b:Int) (w4.alloc (.cells (bts k').toArray 35));rw[show(w4.alloc (.cells (bts k').toArray 35)).heap.size=w4.heap.size+1 by simp] at bw;have bn:=At7;obtain⟨w5,hw5⟩:∃w5,w5=((w4.alloc (.cells (bts k').toArray 35)).alloc (.cells #[.int .u32 (r:Int),.int .u32 (b:Int)] 79)).alloc (.cells #[.int .i64 2,.slice (some ⟨w4.heap.size,0,none⟩) 1 1,.slice none 0 0,.slice (some ⟨w4.heap.size+1,0,none⟩) 2 2] 220):=⟨_,rfl⟩;have st:=L6 ((w4.alloc (.cells (bts k').toArray 35)).alloc (.cells #[.int .u32 (r:Int),.int .u32 (b:Int)] 79)) (some ⟨w4.heap.size,0,none⟩) none (some ⟨w4.heap.size+1,0,none⟩) 2 1 1 0 0 2 2;rw[← hw5,show((w4.alloc (.cells (bts k').toArray 35)).alloc (.cells #[.int .u32 (r:Int),.int .u32 (b:Int)] 79)).heap.size=w4.heap.size+1+1 by simp] at st;have hu5:Upd [] w4 w5:=by rw[hw5];exact(((Upd.refl _ _).alloc _).alloc _).alloc _
  have k5:w5.heap[w4.heap.size]?=some (.cells (bts k').toArray 35 (0,0)):=by rw[hw5,A9 (by simp;omega),A9 (by simp)];exact A6 _
  have v5:w5.heap[w4.heap.size+1]?=some (.cells #[.int .u32 (r:Int),.int .u32 (b:Int)] 79 (0,0)):=by
   rw[hw5,A9 (by simp)];have:=A6 (w:=w4.alloc (.cells (bts k').toArray 35)) (.cells #[.int .u32 (r:Int),.int .u32 (b:Int)] 79);simpa using this
  have n5:w5.heap[w4.heap.size+1+1]?=some (.cells #[.int .i64 2,.slice (some ⟨w4.heap.size,0,none⟩) 1 1,.slice none 0 0,.slice (some ⟨w4.heap.size+1,0,none⟩) 2 2] 220 (0,0)):=by
   rw[hw5];have:=A6 (w:=(w4.alloc (.cells (bts k').toArray 35)).alloc (.cells #[.int .u32 (r:Int),.int .u32 (b:Int)] 79)) (.cells #[.int .i64 2,.slice (some ⟨w4.heap.size,0,none⟩) 1 1,.slice none 0 0,.slice (some ⟨w4.heap.size+1,0,none⟩) 2 2] 220);simpa using this
  have l5:=A7 (n:=4) (cs:=[.int .i64 2,.slice (some ⟨w4.heap.size,0,none⟩) 1 1,.slice none 0 0,.slice (some ⟨w4.heap.size+1,0,none⟩) 2 2]) n5 rfl;have ws:IntKind.u32.wrap (s:Int)=(s:Int):=by rw[IntKind.wrap_u32];omega
  have hcn2:=Ao8 (g:=g) (M:=M1) s H3.out.ok hh1;have hpt:=Bn2 (m:=7) hr4 hd2 HH.out HPA.out (by omega) H3.out.ok (H3.out.cur_len 1) hh1 hh2 hs4 hsh hsT (Av1 H3.out s hh1);have HWR:=η (Aj0 (h4.below hu5) (vv:=.slice none 0 0) (C3.rd (Bn9 hk' k5) hpt.1.k) (D8.rd (Ch1 v5)) hpt.1 s hsh (by omega) (.inr (by rw[hcn2];have:=HCN.out;omega)));have HU5:=η ((HU3.out.trans hu4).trans (hu5.mono (by simp)));have HT:=η hpt.2;clear h4 hu4 c13 m14 r13 hw5 hu5 k5 v5 n5 hpt hcn2 hsT;go_wp2_with fail
  refine HWR.out.mono ?_;rintro e w6 ⟨rfl,h6,hu6⟩;have H6':=η h6;have HU6:=η (HU5.out.trans (hu6.mono g.memw));clear h6 hu6;go_wp2_with fail
  refine(X3 _ w6).mono ?_;rintro e w7 ⟨rfl,hu7⟩;have H7':=η (H6'.out.below hu7);have HU7:=η (HU6.out.trans (hu7.mono (by simp)));clear hu7;go_wp2_with fail
  go_ret2;exact⟨_,s,rfl,HT.out,H7'.out,HU7.out⟩
theorem Ch3{w:World}{g:Sg}{M:Nat->Option Sec}(h:B7 w g M)(hh1:1<g.h)(hh2:g.h<=4096){r:Nat}{l:List B0}{S:List Nat}(ht:Ae2 (g.cur M) r l S)(hh:K7 g M S)(hl:l.length<490)(key v:Bs)(hkey:key.length=32)(hv:v.length=16)
  (hres:(F2 M g.h+c1M M+7<=40/\4<=N3 (g.T M) g.h)∨(r≠0/\l.length<=8/\F2 M g.h<40)) :
  Calls Tryz.prog 58 #[.pointer (some ⟨g.x.tb,0,none⟩),.int .u32 (r:Int),arr key,arr v] w λ e w'=>∃M' r',e=.returned (.tuple #[.int .u32 ((r':Nat):Int),.int .i64 0])/\Aj2 g M M' r r' l S key v 7/\B7 w' g M'/\Upd g.S w w':=by
 rcases ht with⟨rfl,rfl,rfl⟩ | ⟨hr,d,hs⟩
 ·have hres':F2 M g.h+c1M M+7<=40/\4<=N3 (g.T M) g.h:=hres.resolve_right λ q=>q.1 rfl;refine(Ca3 h hh1 hh2 key v hkey hv (by omega) (by omega)).mono ?_;rintro e w' ⟨s,hs4,hsh,hsT,rfl,h1,hu1⟩;obtain⟨S',q1,q2,q3,q4⟩:=(Bi2 hkey hv h.ok (h.cur_len 1) hh1 hh2 hs4 hsh hsT (Av1 h s hh1)).2;exact⟨_,s,rfl,⟨S',q1,q2,q3.mono (Nat.le_refl _) (by omega),q4⟩,h1,hu1⟩
 ·refine Ch2 h hh1 hh2 hr hs.mem.2 hs hh (hs.flat hl) key v hkey hv ?_;rcases hres with q | ⟨_,q1,q2⟩
  ·exact .inl q
  ·refine .inr ⟨?_,q1,q2⟩;cases d with
   | zero=>rfl
   | succ d=>
    exfalso
    have e1:=hs.manyR;have e2:1<=7 ^ d:=Nat.pos_of_ne_zero (by simp);omega
theorem Bw8{w:World}{g:Sg}{M:Nat->Option Sec}(h:B7 w g M)(hh1:1<g.h)(hh2:g.h<=4096){r:Nat}{l:List B0}{S:List Nat}(ht:N0 (g.cur M) g.h r l S)(hl:l.length<490)(key v:Bs)(hkey:key.length=32)(hv:v.length=16)(hres:F2 M g.h+c1M M+7<=40)(hleft:4<=N3 (g.T M) g.h) :
  Calls Tryz.prog 58 #[.pointer (some ⟨g.x.tb,0,none⟩),.int .u32 (r:Int),arr key,arr v] w λ e w'=>∃M' r',e=.returned (.tuple #[.int .u32 ((r':Nat):Int),.int .i64 0])/\Aj2 g M M' r r' l S key v 7/\B7 w' g M'/\Upd g.S w w':=
 Ch3 h hh1 hh2 ht.at_ ht.held hl key v hkey hv (.inl ⟨hres,hleft⟩)
end
end Go.Proofs.YtgfbepakonjbnaaGreat
end
section
set_option linter.unusedSimpArgs false
set_option linter.unusedVariables false
namespace Go.Proofs.YtgfbepakonjbnaaGreat
open Go.RowKit
section
def Aa6(g:Sg)(M:Nat->Option Sec)(s:Nat):Nat->Option Sec:=Ai0 M (Ai6 (Y5 (g.cur M 1)) s false 1)
theorem Ap4{g:Sg}{M:Nat->Option Sec}(s i:Nat)(hi:i≠1):g.cur (Aa6 g M s) i=g.cur M i:=by
 unfold Sg.cur Aa6 Ai0;rw[if_neg hi]
theorem Cr2{g:Sg}{M:Nat->Option Sec}(hl:(g.cur M 1).length=512){s:Nat}(hs:4<=s)(hh:s<4096)(i:Nat):g.T (Aa6 g M s) i=(g.T M i && !decide (i=s)):=by
 unfold Aa6;rw[Sg.T_turn hl false hs (by omega)];by_cases e:i=s
 ·subst e;simp
 ·rw[if_neg (by omega)];simp[e]
theorem Cp4(g:Sg)(M:Nat->Option Sec)(s:Nat):c1M (Aa6 g M s)=0:=by
 unfold c1M Aa6 Ai0;simp
theorem Bi7{g:Sg}{M:Nat->Option Sec}{h:Nat}(s:Nat)(ho:MOk M h)(hh:1<h):F2 (Aa6 g M s) h=F2 M h+c1M M:=by
 unfold Aa6 Ai0 c1M;rw[Ao2 ho hh];split<;>rfl
theorem Cm4{g:Sg}{M:Nat->Option Sec}(ho:MOk M g.h)(hl:(g.cur M 1).length=512)(s:Nat)(h1:1<g.h):MOk (Aa6 g M s) g.h:=by
 intro i x e;unfold Aa6 Ai0 at e;split at e
 ·next q=>cases e;exact⟨by omega,by rw[U0,X0];exact hl⟩
 ·exact ho i x e
theorem Ci0{g:Sg}{M:Nat->Option Sec}{a:Nat}{x:Sec}(ha:4<=a)(hl:(g.cur M 1).length=512):(g.cur (F1 M a x) 1).length=512:=by rw[G6 _ _ _ (by omega)];exact hl
def Aj8(M:Nat->Option Sec)(d a:Nat)(ks vs:List Bs)(ds:List Nat):Nat->Option Sec:=if N9 d<=ks.length then F1 M a (Aj7 d ks vs ds) else M
structure M7(g:Sg)(M M':Nat->Option Sec)(S S':List Nat)(m:Nat):Prop where
 sub:∀s,s∈S'->s∈S
 nd:S'.Nodup
 T:∀i,g.T M' i=(g.T M i && !(decide (i∈S) && !decide (i∈S')))
 keep:∀i,i∉S->i≠1->M' i=M i
 cnt:F2 M' g.h+c1M M'<=F2 M g.h+c1M M+m
 left:N3 (g.T M') g.h+S'.length=N3 (g.T M) g.h+S.length
section
variable {g:Sg} {M M1:Nat->Option Sec} {S S':List Nat} {m:Nat}
theorem K7.shr(h:K7 g M S):M7 g M M S S 0:=
 ⟨λ _ q=>q,h.nd,λ i=>by by_cases e:i∈S<;>simp[e],λ _ _ _=>rfl,Nat.le_refl _,rfl⟩
theorem M7.held(h:M7 g M M1 S S' m)(hs:K7 g M S):K7 g M1 S':=
 ⟨h.nd,λ s q=>hs.low s (h.sub s q),λ s q=>by rw[h.T,hs.T s (h.sub s q)];simp[q]⟩
theorem M7.perm(h:M7 g M M1 S S' m){S2:List Nat}(hp:S'.Perm S2):M7 g M M1 S S2 m:=
 ⟨λ s q=>h.sub s (hp.mem_iff.2 q),hp.nodup_iff.1 h.nd,λ i=>by rw[h.T];simp only[hp.mem_iff],h.keep,h.cnt,by rw[← hp.length_eq];exact h.left⟩
theorem M7.mono(h:M7 g M M1 S S' m){m':Nat}(hm:m<=m'):M7 g M M1 S S' m':=
 ⟨h.sub,h.nd,h.T,h.keep,Nat.le_trans h.cnt (by omega),h.left⟩
theorem M7.put(h:M7 g M M1 S S' m)(ho:MOk M1 g.h){a:Nat}(ha:a∈S')(ha1:4<=a)(hh:a<g.h)(x:Sec):M7 g M (F1 M1 a x) S S' (m+1):=by
 refine⟨h.sub,h.nd,λ i=>by rw[Az8 x (by omega)];exact h.T i,λ i q r=>?_,?_,?_⟩
 ·unfold F1;rw[if_neg (by rintro rfl;exact q (h.sub _ ha))];exact h.keep i q r
 ·rw[Ar0 x (by omega)];have:=T4 (x:=x) ho hh;have:=h.cnt;omega
 ·rw[show g.T (F1 M1 a x)=g.T M1 from funext λ i=>Az8 x (by omega) i];exact h.left
theorem M7.keepM(h:M7 g M M1 S S' m)(ho:MOk M1 g.h){a:Nat}(ha:a∈S')(ha1:4<=a)(hh:a<g.h)(d:Nat)(ks vs:List Bs)(ds:List Nat):M7 g M (Aj8 M1 d a ks vs ds) S S' (m+1):=by
 unfold Go.Proofs.YtgfbepakonjbnaaGreat.Aj8;split
 ·exact h.put ho ha ha1 hh _
 ·exact h.mono (by omega)
theorem M7.free{s:Nat}(h:M7 g M M1 S (s :: S') m)(hs:K7 g M S)(ho:MOk M1 g.h)(hl:(g.cur M1 1).length=512)(hh:1<g.h)(hh2:g.h<=4096):M7 g M (Aa6 g M1 s) S S' m:=by
 have hin:=h.sub s (by simp);have hlow:=hs.low s hin;have hT:=Cr2 hl hlow.1 (show s<4096 by omega);have hnd:=List.nodup_cons.1 h.nd;refine⟨λ i q=>h.sub i (by simp[q]),hnd.2,λ i=>?_,λ i q r=>?_,?_,?_⟩
 ·rw[hT,h.T];by_cases e:i=s
  ·subst e;simp[hin,hnd.1]
  ·simp[e]
 ·unfold Aa6 Ai0;rw[if_neg r];exact h.keep i q r
 ·rw[Cp4,Bi7 s ho hh];exact h.cnt
 ·have:=Ah3 (T:=g.T (Aa6 g M1 s)) (T':=g.T M1) (s:=s) (λ i=>by
   rw[hT];by_cases e:i=s
   ·subst e;rw[(h.held hs).T i (by simp)];simp
   ·simp[e]) (by rw[hT];simp) g.h
  rw[if_pos hlow.2] at this;have:=h.left;simp only[List.length_cons] at this;omega
theorem M7.out{Sc Sc' X Y:List Nat}(h:M7 g M M1 Sc Sc' m)(hs:K7 g M (X++(Sc++Y))):∀i,i∈X∨i∈Y->i∉Sc/\g.cur M1 i=g.cur M i:=by
 intro i hi;have n1:=List.nodup_append.1 hs.nd;have n2:=List.nodup_append.1 n1.2.1;have hout:i∉Sc:=λ q=>by
  rcases hi with r | r
  ·exact n1.2.2 i r i (by simp[q]) rfl
  ·exact n2.2.2 i q i r rfl
 have hi4:4<=i:=by
  rcases hi with r | r
  ·exact(hs.low i (by simp[r])).1
  ·exact(hs.low i (by simp[r])).1
 exact⟨hout,by unfold Sg.cur;rw[h.keep i hout (by omega)]⟩
theorem M7.lift{Sc Sc' X Y:List Nat}(h:M7 g M M1 Sc Sc' m)(hs:K7 g M (X++(Sc++Y))):M7 g M M1 (X++(Sc++Y)) (X++(Sc'++Y)) m:=by
 have hd1:=List.nodup_append.1 hs.nd;have hd2:=List.nodup_append.1 hd1.2.1;have out:=h.out hs;refine⟨λ s q=>?_,?_,λ i=>?_,λ i q r=>?_,h.cnt,?_⟩
 ·simp only[List.mem_append] at q ⊢;rcases q with q | q | q
  ·exact .inl q
  ·exact .inr (.inl (h.sub s q))
  ·exact .inr (.inr q)
 ·refine List.nodup_append.2 ⟨hd1.1,List.nodup_append.2 ⟨h.nd,hd2.2.1,λ a ha b hb e=>?_⟩,λ a ha b hb e=>?_⟩
  ·subst e;exact hd2.2.2 a (h.sub a ha) a hb rfl
  ·subst e;rcases List.mem_append.1 hb with q | q
   ·exact hd1.2.2 a ha a (by simp[h.sub a q]) rfl
   ·exact hd1.2.2 a ha a (by simp[q]) rfl
 ·rw[h.T i];by_cases e:i∈X∨i∈Y
  ·have:=(out i e).1;rcases e with e | e<;>simp[e,this]
  ·simp only[not_or] at e;simp[e.1,e.2]
 ·simp only[List.mem_append,not_or] at q;exact h.keep i q.2.1 r
 ·have:=h.left;simp only[List.length_append];omega
end
theorem Ba8{d:Nat}{ks vs:List Bs}{ds:List Nat}{C:Nat->Sec}{l:List B0}{S:List Nat}(h:Q7 C d ks vs ds l S)(hm:ks.length<=V2 d):(Aj7 d ks vs ds).length=512:=by
 obtain⟨h1,h2,h3,h4⟩:=h.len;cases d with
 | zero=>simp at h4;exact K6 ⟨h1,h2,h4.1,hm⟩ (Nat.le_refl _)
 | succ d=>simp at h4;exact J6 ⟨h1,h3,h4.1,hm⟩ (Nat.le_refl _)
theorem Q7.ne{C:Nat->Sec}{d:Nat}{ks vs:List Bs}{ds:List Nat}{l:List B0}{S:List Nat}(h:Q7 C d ks vs ds l S)(hk:0<ks.length):l≠[]:=by
 cases d with
 | zero=>obtain⟨_,_,rfl,_⟩:=h;rintro rfl;simp at hk
 | succ d=>obtain⟨_,_,_,_,h5⟩:=h;exact h5.ne λ k l S h=>E3.ne h
def W4(g:Sg)(M M':Nat->Option Sec)(root:Bool)(d a:Nat)(l:List B0)(S:List Nat)(key:Bs)(ks vs:List Bs)(ds:List Nat):Prop:=
 ∃S',Q7 (g.cur M') d ks vs ds (N7 l key) S'/\ks.length<=V2 d/\(if root then 1 else N9 d)<=ks.length+1/\(N9 d<=ks.length->g.cur M' a=Aj7 d ks vs ds)/\M7 g M M' S (a :: S') (3*d+1)
theorem Bp3{g:Sg}{M:Nat->Option Sec}{root:Bool}{a:Nat}{l:List B0}{S:List Nat}{key:Bs}(hs:E3 (g.cur M) root 0 a l S)(hh:K7 g M S)(ho:MOk M g.h)(hk:I4 (l.map (·.1)) key=true):W4 g M (Aj8 M 0 a ((l.map (·.1)).eraseIdx (F4 (l.map (·.1)) key)) ((l.map (·.2)).eraseIdx (F4 (l.map (·.1)) key)) []) root 0 a l S key ((l.map (·.1)).eraseIdx (F4 (l.map (·.1)) key)) ((l.map (·.2)).eraseIdx (F4 (l.map (·.1)) key)) []:=by
 have hlow:=hh.low a hs.mem.1;obtain⟨rfl,ha,hok,hc,hn,hp⟩:=hs;obtain⟨e1,e2⟩:=Be8 hp hk;refine⟨[],?_,?_,?_,λ hl=>?_,hh.shr.keepM ho (by simp) hlow.1 hlow.2 _ _ _ _⟩
 ·rw[← e1,← e2];exact⟨rfl,rfl,rfl,rfl,λ p hp=>hok.pairs p (Y4 hp),Bp1 hp key⟩
 ·have:=hok.most;rw[List.length_map] at this;rw[← e1,List.length_map];exact Nat.le_trans (Bp0 l key) this
 ·rw[List.length_eraseIdx,List.length_map];have h2:l.length<=(if F4 (l.map (·.1)) key<l.length then l.length-1 else l.length)+1:=by split<;>omega
  exact Nat.le_trans hn h2
 ·unfold Aj8;rw[if_pos hl,J5]
def Au4(g:Sg)(M M1:Nat->Option Sec)(root:Bool)(d a:Nat)(l:List B0)(S:List Nat)(key:Bs)(ks:List Bs)(ds:List Nat)(i:Nat)(k0:Bs)(c1 c2:Nat)(k1 v1:List Bs)(d1:List Nat)(k2 v2:List Bs)(d2:List Nat):Prop:=
 ∃la l1 l2 lb Sa S1 S2 Sb l1' T1 l2' T2,a<4294967296/\K7 g M S/\ks.Pairwise (λ x y=>ltB x y=true)/\G0 ks ds/\(∃S0,S=a :: S0/\Cn5 (λ k l S=>E3 (g.cur M) false d k l S) ks ds l S0 i k0 c1 c2 la l1 l2 lb Sa S1 S2 Sb)/\
  Q7 (g.cur M1) d k1 v1 d1 l1' T1/\Q7 (g.cur M1) d k2 v2 d2 l2' T2/\(∀p,p∈l1'->p∈l1)/\(∀p,p∈l2'->p∈l2)/\N7 l key=la++((l1'++l2')++lb)/\(∀s,s∈Sa∨s∈Sb->g.cur M1 s=g.cur M s)/\
  M7 g M M1 S ((a :: Sa)++((c1 :: T1)++((c2 :: T2)++Sb))) (3*d+1)/\k1.length<=V2 d/\k2.length<=V2 d/\(N9 d<=k1.length∨N9 d<=k2.length)/\0<k1.length/\0<k2.length/\(if root then 1 else 6)<=ks.length
section
variable {g:Sg} {M M1:Nat->Option Sec} {root:Bool} {d a:Nat} {l:List B0} {S:List Nat} {key:Bs} {ks:List Bs} {ds:List Nat} {i:Nat} {k0:Bs} {c1 c2:Nat} {k1 v1:List Bs} {d1:List Nat} {k2 v2:List Bs} {d2:List Nat}
theorem Au4.in_(h:Au4 g M M1 root d a l S key ks ds i k0 c1 c2 k1 v1 d1 k2 v2 d2):(c1<4294967296/\4<=c1/\c1<g.h)/\(c2<4294967296/\4<=c2/\c2<g.h)/\(4<=a/\a<g.h)/\i<ks.length/\ks[i]?=some k0/\ds[i]?=some c1/\ds[i+1]?=some c2:=by
 obtain⟨la,l1,l2,lb,Sa,S1,S2,Sb,l1',T1,l2',T2,ha,hh,hp,hok,⟨S0,rfl,H⟩,_⟩:=h;have m1:=H.p1.mem;have m2:=H.p2.mem;have e1:=hh.low c1 (by rw[H.eS];simp[m1.1]);have e2:=hh.low c2 (by rw[H.eS];simp[m2.1]);exact⟨⟨m1.2,e1⟩,⟨m2.2,e2⟩,hh.low a (by simp),(List.getElem?_eq_some_iff.1 H.k).1,H.k,H.d1,H.d2⟩
theorem Au4.join(h:Au4 g M M1 root d a l S key ks ds i k0 c1 c2 k1 v1 d1 k2 v2 d2)(hm:(Ah9 d k1 k0 k2).length<=V2 d)(ho:MOk M1 g.h)(hl1:(g.cur M1 1).length=512)(h1:1<g.h)(h2:g.h<=4096) :
  W4 g M (Aj8 (Aa6 g (F1 M1 c1 (Aj7 d (Ah9 d k1 k0 k2) (v1++v2) (d1++d2))) c2) (d+1) a (ks.eraseIdx i) [] (ds.eraseIdx (i+1))) root (d+1) a l S key (ks.eraseIdx i) [] (ds.eraseIdx (i+1)):=by
 obtain⟨⟨c1a,c1b,c1c⟩,⟨c2a,c2b,c2c⟩,⟨ha4,hah⟩,hi,_⟩:=h.in_;obtain⟨la,l1,l2,lb,Sa,S1,S2,Sb,l1',T1,l2',T2,ha,hh,hp,hok,⟨S0,rfl,H⟩,o1,o2,sub1,sub2,el,hk,hS,_,_,hbig,_,_,hroot⟩:=h;have hkl:k0.length=32:=hok.k _ (List.mem_of_getElem? H.k);have b1:∀p,p∈l1'->ltB p.1 k0=true:=λ p hp=>H.low p (by simp[sub1 p hp]);have b2:∀p,p∈l2'->ltB p.1 k0=false:=λ p hp=>H.high p (by simp[sub2 p hp]);have oj:=o1.join o2 hkl b1 b2;have hlen:=Ba8 oj hm;obtain⟨E,hE⟩:∃E,E=Aj7 d (Ah9 d k1 k0 k2) (v1++v2) (d1++d2):=⟨_,rfl⟩;rw[← hE] at hlen ⊢;have hnd:=hS.nd;have hlow:=(hS.held hh).low;have f1:=hS.put ho (a:=c1) (by simp) c1b c1c E;have p1:((a :: Sa)++((c1 :: T1)++((c2 :: T2)++Sb))).Perm (c2 :: ((a :: Sa)++((c1 :: (T1++T2))++Sb))):=by
  have:=List.perm_middle (a:=c2) (l₁:=a :: (Sa++(c1 :: T1))) (l₂:=T2++Sb);simpa using this
 have ho2:=Ah4 ho c1c hlen;have hl2:=Ci0 (x:=E) c1b hl1;have f2:=(f1.perm p1).free hh ho2 hl2 h1 h2;have ho3:=Cm4 ho2 hl2 c2 h1;have f3:=f2.keepM ho3 (a:=a) (by simp) ha4 hah (d+1) (ks.eraseIdx i) [] (ds.eraseIdx (i+1));have hcur:∀s,s≠a->s≠c1->s≠1->g.cur (Aj8 (Aa6 g (F1 M1 c1 E) c2) (d+1) a (ks.eraseIdx i) [] (ds.eraseIdx (i+1))) s=g.cur M1 s:=by
  intro s q1 q2 q3;unfold Aj8;split
  ·rw[G6 _ _ _ q1,Ap4 _ _ q3,G6 _ _ _ q2]
  ·rw[Ap4 _ _ q3,G6 _ _ _ q2]
 have hac:a≠c1:=by rintro rfl;simp at hnd
 have hcur1:g.cur (Aj8 (Aa6 g (F1 M1 c1 E) c2) (d+1) a (ks.eraseIdx i) [] (ds.eraseIdx (i+1))) c1=E:=by
  unfold Aj8;split
  ·rw[G6 _ _ _ (Ne.symm hac),Ap4 _ _ (by omega),J5]
  ·rw[Ap4 _ _ (by omega),J5]
 have hin:∀s,s∈Sa++(T1++(T2++Sb))->s≠a/\s≠c1/\s≠1:=by
  intro s q;have hmem:s∈(a :: Sa)++((c1 :: T1)++((c2 :: T2)++Sb)):=by
   simp only[List.mem_append,List.mem_cons] at q ⊢;rcases q with q | q | q | q<;>simp[q]
  have:=hlow s hmem;refine⟨?_,?_,by omega⟩
  ·rintro rfl;have:=(List.nodup_cons.1 hnd).1;apply this;simp only[List.mem_append,List.mem_cons] at q ⊢;rcases q with q | q | q | q<;>simp[q]
  ·rintro rfl;have n0:=(List.nodup_cons.1 hnd).2;have n1:=List.nodup_append.1 n0;have n2:=(List.nodup_cons.1 n1.2.1).1;simp only[List.mem_append] at q;rcases q with q | q | q | q
   ·exact n1.2.2 s q s (by simp) rfl
   ·exact n2 (by simp[q])
   ·exact n2 (by simp[q])
   ·exact n2 (by simp[q])
 have hcurs:∀s,s∈Sa++(T1++(T2++Sb))->g.cur (Aj8 (Aa6 g (F1 M1 c1 E) c2) (d+1) a (ks.eraseIdx i) [] (ds.eraseIdx (i+1))) s=g.cur M1 s:=λ s q=>hcur s (hin s q).1 (hin s q).2.1 (hin s q).2.2;refine⟨Sa++((c1 :: (T1++T2))++Sb),⟨rfl,λ x q=>hok.k x ((List.eraseIdx_sublist _ _).subset q),λ x q=>hok.d x ((List.eraseIdx_sublist _ _).subset q),hp.sublist (List.eraseIdx_sublist _ _),?_⟩,?_,?_,λ hl=>?_,(f3.mono (by omega)).perm (by simp)⟩
 ·rw[el];refine H.join _ _ _ (λ k l S hP hs=>hP.keep λ s q=>?_) ((oj.keep λ s q=>hcurs s ?_).close c1a (by rw[hcur1,hE]) ?_ hm) (λ p hp=>?_)
  ·rw[hcurs s (by rcases hs s q with r | r<;>simp[r])];exact hk s (hs s q)
  ·rcases List.mem_append.1 q with r | r<;>simp[r]
  ·have:k1.length<=(Ah9 d k1 k0 k2).length/\k2.length<=(Ah9 d k1 k0 k2).length:=by
    cases d<;>(unfold Ah9;simp;try omega)
   simp only[Bool.false_eq_true,if_false];omega
  ·rcases List.mem_append.1 hp with r | r
   ·simp[sub1 p r]
   ·simp[sub2 p r]
 ·have:=hok.most;rw[List.length_eraseIdx];show _<=13
  split<;>omega
 ·rw[List.length_eraseIdx,if_pos hi];show(if root then 1 else 6)<=_
  omega
 ·unfold Aj8;rw[if_pos hl,J5]
theorem Au4.share(h:Au4 g M M1 root d a l S key ks ds i k0 c1 c2 k1 v1 d1 k2 v2 d2){K:List Bs}(hK:Ah9 d k1 k0 k2=K)(hm:V2 d<K.length){hf:Nat}(hhf:hf=K.length / 2){k':Bs}(hk':K[hf]?=some k')(ho:MOk M1 g.h)(hl1:(g.cur M1 1).length=512)(h1:1<g.h)(h2:g.h<=4096) :
  (K.take hf).length<=V2 d/\(Al7 d K hf).length<=V2 d/\k'.length=32/\W4 g M (F1 (F1 (F1 M1 c1 (Aj7 d (K.take hf) ((v1++v2).take hf) ((d1++d2).take (hf+1)))) c2 (Aj7 d (Al7 d K hf) ((v1++v2).drop hf) ((d1++d2).drop (hf+1)))) a (B5 (ks.set i k') ds)) root (d+1) a l S key (ks.set i k') [] ds:=by
 obtain⟨⟨c1a,c1b,c1c⟩,⟨c2a,c2b,c2c⟩,⟨ha4,hah⟩,hi,_⟩:=h.in_;obtain⟨la,l1,l2,lb,Sa,S1,S2,Sb,l1',T1,l2',T2,ha,hh,hp,hok,⟨S0,rfl,H⟩,o1,o2,sub1,sub2,el,hk,hS,hm1,hm2,hbig,_,_,hroot⟩:=h;have hkl:k0.length=32:=hok.k _ (List.mem_of_getElem? H.k);have b1:∀p,p∈l1'->ltB p.1 k0=true:=λ p hp=>H.low p (by simp[sub1 p hp]);have b2:∀p,p∈l2'->ltB p.1 k0=false:=λ p hp=>H.high p (by simp[sub2 p hp]);have oj:=o1.join o2 hkl b1 b2;rw[hK] at oj;obtain⟨m1,U1,m2,U2,e1,e2,q1,q2,x1,x2⟩:=oj.share hk';have hKl:K.length<=2*V2 d+(if d=0 then 0 else 1):=by
  rw[← hK];cases d<;>(unfold Ah9;simp;omega)
 have hlens:N9 d<=(K.take hf).length/\(K.take hf).length<=V2 d/\N9 d<=(Al7 d K hf).length/\(Al7 d K hf).length<=V2 d:=by
  cases d with
  | zero=>simp only[Al7,List.length_take,List.length_drop,N9,V2] at hm hKl ⊢;simp at hKl;omega
  | succ d=>simp only[Al7,List.length_take,List.length_drop,N9,V2] at hm hKl ⊢;simp at hKl;omega
 have hk32:k'.length=32:=oj.len.1 _ (List.mem_of_getElem? hk');refine⟨hlens.2.1,hlens.2.2.2,hk32,?_⟩;have g1:=Ba8 q1 hlens.2.1;have g2:=Ba8 q2 hlens.2.2.2;obtain⟨E1,hE1⟩:∃E,E=Aj7 d (K.take hf) ((v1++v2).take hf) ((d1++d2).take (hf+1)):=⟨_,rfl⟩;obtain⟨E2,hE2⟩:∃E,E=Aj7 d (Al7 d K hf) ((v1++v2).drop hf) ((d1++d2).drop (hf+1)):=⟨_,rfl⟩;rw[← hE1] at g1 ⊢;rw[← hE2] at g2 ⊢;have hnd:=hS.nd;have hlow:=(hS.held hh).low;have f1:=hS.put ho (a:=c1) (by simp) c1b c1c E1;have ho2:=Ah4 ho c1c g1;have f2:=f1.put ho2 (a:=c2) (by simp) c2b c2c E2;have ho3:=Ah4 ho2 c2c g2;have f3:=f2.put ho3 (a:=a) (by simp) ha4 hah (B5 (ks.set i k') ds);have n0:=List.nodup_cons.1 hnd;have n1:=List.nodup_append.1 n0.2;have n2:=List.nodup_cons.1 n1.2.1;have n3:=List.nodup_append.1 n2.2;have n4:=List.nodup_cons.1 n3.2.1;have hac:a≠c1:=by rintro rfl;exact n0.1 (by simp)
 have hac2:a≠c2:=by rintro rfl;exact n0.1 (by simp)
 have hcc:c1≠c2:=by rintro rfl;exact n2.1 (by simp)
 have hin:∀s,s∈Sa++(T1++(T2++Sb))->s≠a/\s≠c1/\s≠c2:=by
  intro s q;refine⟨?_,?_,?_⟩
  ·rintro rfl;apply n0.1;simp only[List.mem_append,List.mem_cons] at q ⊢;rcases q with q | q | q | q<;>simp[q]
  ·rintro rfl;simp only[List.mem_append] at q;rcases q with q | q | q | q
   ·exact n1.2.2 s q s (by simp) rfl
   ·exact n2.1 (by simp[q])
   ·exact n2.1 (by simp[q])
   ·exact n2.1 (by simp[q])
  ·rintro rfl;simp only[List.mem_append] at q;rcases q with q | q | q | q
   ·exact n1.2.2 s q s (by simp) rfl
   ·exact n3.2.2 s q s (by simp) rfl
   ·exact n4.1 (by simp[q])
   ·exact n4.1 (by simp[q])
 have hcurs:∀s,s∈Sa++(T1++(T2++Sb))->g.cur (F1 (F1 (F1 M1 c1 E1) c2 E2) a (B5 (ks.set i k') ds)) s=g.cur M1 s:=λ s q=>by
  obtain⟨r1,r2,r3⟩:=hin s q;rw[G6 _ _ _ r1,G6 _ _ _ r3,G6 _ _ _ r2]
 have hUT:∀s,s∈U1++U2->s∈T1++T2:=λ s q=>by rw[e2];exact q
 have hsh:=H.share (λ k l S=>E3 (g.cur (F1 (F1 (F1 M1 c1 E1) c2 E2) a (B5 (ks.set i k') ds))) false d k l S) k' m1 (c1 :: U1) m2 (c2 :: U2) (λ k l S hP hs=>hP.keep λ s q=>by
   rw[hcurs s (by rcases hs s q with r | r<;>simp[r])];exact hk s (hs s q))
  ((q1.keep λ s q=>hcurs s (by
   have:=hUT s (by simp[q]);simp only[List.mem_append] at this ⊢;rcases this with r | r<;>simp[r])).close c1a (by rw[G6 _ _ _ (Ne.symm hac),G6 _ _ _ hcc,J5,hE1]) (by simpa using hlens.1) hlens.2.1)
  ((q2.keep λ s q=>hcurs s (by
   have:=hUT s (by simp[q]);simp only[List.mem_append] at this ⊢;rcases this with r | r<;>simp[r])).close c2a (by rw[G6 _ _ _ (Ne.symm hac2),J5,hE2]) (by simpa using hlens.2.2.1) hlens.2.2.2)
  (q1.ne (by have:=hlens.1;cases d<;>(simp only[N9] at this;omega))) (q2.ne (by have:=hlens.2.2.1;cases d<;>(simp only[N9] at this;omega))) x1 x2 (λ p hp=>by
   rw[← e1] at hp;rcases List.mem_append.1 hp with r | r
   ·simp[sub1 p r]
   ·simp[sub2 p r])
 refine⟨Sa++(((c1 :: U1)++(c2 :: U2))++Sb),⟨rfl,λ x q=>?_,hok.d,hsh.2,by rw[el,e1];exact hsh.1⟩,by rw[List.length_set];exact hok.most,by rw[List.length_set];show(if root then 1 else 6)<=_;omega,λ _=>J5 _ _ _ _,(f3.mono (by omega)).perm ?_⟩
 ·rcases List.mem_or_eq_of_mem_set q with q | rfl
  ·exact hok.k x q
  ·exact hk32
 ·refine List.Perm.cons _ (List.Perm.append_left _ ?_);have:(c1 :: (T1++(c2 :: (T2++Sb)))).Perm (c1 :: c2 :: ((T1++T2)++Sb)):=List.Perm.cons _ (by simp);refine(show(c1 :: T1++(c2 :: T2++Sb)).Perm _ from this).trans ?_;rw[e2];have:(c1 :: (U1++(c2 :: (U2++Sb)))).Perm (c1 :: c2 :: ((U1++U2)++Sb)):=List.Perm.cons _ (by simp);simpa using this.symm
end
def Cp5(g:Sg)(M1:Nat->Option Sec)(d c:Nat)(k v:List Bs)(ds:List Nat):Prop:=c<4294967296/\c<g.h/\g.cur M1 c=Aj7 d k v ds/\k.length<=V2 d/\(∃l S,Q7 (g.cur M1) d k v ds l S)
structure Bw9(g:Sg)(M:Nat->Option Sec)(root:Bool)(d a:Nat)(l:List B0)(S:List Nat)(key:Bs)(ks:List Bs)(ds:List Nat)(kid:Nat)(lc:List B0)(Sc:List Nat):Prop where
 ok:G0 ks ds
 enc:g.cur M a=B5 ks ds
 pos:0<ks.length
 at_:ds[chK ks key]?=some kid
 shape:E3 (g.cur M) false d kid lc Sc
 held:K7 g M Sc
 look:G9 l key=G9 lc key
 whole:∀M1 k1 v1 d1,W4 g M M1 false d kid lc Sc key k1 v1 d1->N9 d<=k1.length->W4 g M M1 root (d+1) a l S key ks [] ds
 left:chK ks key=0->∀M1 k1 v1 d1,W4 g M M1 false d kid lc Sc key k1 v1 d1->∃k0 c2 k2 v2 d2,Cp5 g M1 d c2 k2 v2 d2/\Au4 g M M1 root d a l S key ks ds 0 k0 kid c2 k1 v1 d1 k2 v2 d2
 right:∀i,chK ks key=i+1->∀M1 k2 v2 d2,W4 g M M1 false d kid lc Sc key k2 v2 d2->∃k0 c1 k1 v1 d1,Cp5 g M1 d c1 k1 v1 d1/\Au4 g M M1 root d a l S key ks ds i k0 c1 kid k1 v1 d1 k2 v2 d2
theorem K7.part{g:Sg}{M:Nat->Option Sec}{X Y Sc:List Nat}(h:K7 g M (X++(Sc++Y))):K7 g M Sc:=
 ⟨(List.nodup_append.1 (List.nodup_append.1 h.nd).2.1).1,λ s q=>h.low s (by simp[q]),λ s q=>h.T s (by simp[q])⟩
theorem Bp4{α:Type}{l:List α}{i:Nat}{x:α}(h:l[i]?=some x):l.set i x=l:=by
 obtain⟨h1,h2⟩:=List.getElem?_eq_some_iff.1 h;rw[← h2,List.set_getElem_self]
theorem Bf0{d n:Nat}(h:N9 d<=n):0<n:=by cases d<;>(simp only[N9] at h;omega)
theorem Bx0{d n:Nat}(h:(if false=true then 1 else N9 d)<=n+1):0<n:=by cases d<;>(simp[N9] at h;omega)
theorem E3.dropKid{g:Sg}{M:Nat->Option Sec}{root:Bool}{d a:Nat}{l:List B0}{S:List Nat}{key:Bs}(hs:E3 (g.cur M) root (d+1) a l S)(hh:K7 g M S):∃ks ds kid lc Sc,Bw9 g M root d a l S key ks ds kid lc Sc:=by
 have hlow:=hh.low a hs.mem.1;obtain⟨ha,ks,ds,S',rfl,hok,hc,hn,hp,hkids⟩:=hs;have hpos:0<ks.length:=by cases root<;>simp at hn<;>omega
 have hI:=Az9 ks key;cases hch:chK ks key with
 | zero=>
  obtain⟨k0,c1,c2,la,l1,l2,lb,Sa,S1,S2,Sb,H⟩:=hkids.pair hp hpos;have hla:=H.first rfl;have hkk:ltB key k0=true:=Ar5 hp (by rw[hch];exact H.k);have hhi:∀p,p∈l2++lb->ltB key p.1=true:=λ p hq=>by
   cases r:ltB key p.1
   ·have:=J9 (a:=p.1) r hkk;rw[H.high p hq] at this;simp at this
   ·rfl
  have hh2:K7 g M ((a :: Sa)++(S1++(S2++Sb))):=by have:=hh;rw[H.eS] at this;exact this
  have hd:N7 l key=la++(N7 l1 key++(l2++lb)):=by rw[H.el];exact Bo8 (by rw[hla];simp) hhi
  have hs2:=hh2;refine⟨ks,ds,c1,l1,S1,hok,hc,hpos,by rw[hch];exact H.d1,H.p1,hh2.part,by rw[H.el];exact Ab6 (by rw[hla];simp) hhi,?_,?_,λ i e=>by omega⟩
  ·rintro M1 k1 v1 d1 ⟨T1,o1,hm,hlo1,henc,hS⟩ hle;have ho:=hS.out hh2;have hna:a∉S1/\g.cur M1 a=g.cur M a:=ho a (.inl (by simp));have q1:=o1.close (root:=false) H.p1.mem.2 (henc hle) (by simpa using hle) hm;have q2:=H.p2.keep (C':=g.cur M1) (λ s q=>(ho s (.inr (by simp[q]))).2);have:=H.share (λ k l S=>E3 (g.cur M1) false d k l S) k0 (N7 l1 key) (c1 :: T1) l2 S2 (λ k l S hP hs=>hP.keep λ s q=>by
    rcases hs s q with r | r
    ·exact(ho s (.inl (by simp[r]))).2
    ·exact(ho s (.inr (by simp[r]))).2) q1 q2 q1.ne q2.ne (λ p q=>H.low p (by simp[Y4 q])) (λ p q=>H.high p (by simp[q])) (λ p q=>by
     rcases List.mem_append.1 q with r | r
     ·simp[Y4 r]
     ·simp[r])
   rw[Bp4 H.k] at this;refine⟨Sa++(((c1 :: T1)++S2)++Sb),⟨rfl,hok.k,hok.d,hp,by rw[hd];simpa using this.1⟩,hok.most,by show(if root then 1 else 6)<=_;omega,λ _=>by rw[hna.2];exact hc,?_⟩;have:=(hS.lift hh2).mono (show 3*d+1<=3*(d+1)+1 by omega);rw[H.eS];exact this.perm (by simp)
  ·rintro _ M1 k1 v1 d1 ⟨T1,o1,hm,hlo1,henc,hS⟩;have ho:=hS.out hh2;obtain⟨k2,v2,d2,T2,e2,hc2,o2,henc2,hle2,hm2⟩:=H.p2.open;have hk2:∀s,s∈S2->g.cur M1 s=g.cur M s:=λ s q=>(ho s (.inr (by simp[q]))).2;have o2':=o2.keep (C':=g.cur M1) (λ s q=>hk2 s (by rw[e2];simp[q]));have hlow2:=hh2.low c2 (by simp[H.p2.mem.1]);refine⟨k0,c2,k2,v2,d2,⟨hc2,hlow2.2,by rw[hk2 c2 H.p2.mem.1];exact henc2,hm2,_,_,o2'⟩,la,l1,l2,lb,Sa,S1,S2,Sb,_,T1,_,T2,ha,hh,hp,hok,⟨_,rfl,H⟩,o1,o2',λ p q=>Y4 q,λ p q=>q,by rw[hd];simp,λ s q=>?_,?_,hm,hm2,.inr (by simpa using hle2),Bx0 hlo1,Bf0 (by simpa using hle2),hn⟩
   ·rcases q with q | q
    ·exact(ho s (.inl (by simp[q]))).2
    ·exact(ho s (.inr (by simp[q]))).2
   ·have:=hS.lift hh2;rw[H.eS];rw[← e2];exact this.perm (by simp)
 | succ i=>
  have hi:i<ks.length:=by omega
  obtain⟨k0,c1,c2,la,l1,l2,lb,Sa,S1,S2,Sb,H⟩:=hkids.pair hp hi;have hkk:ltB key k0=false:=Be9 hp (by omega) H.k;have hlo:∀p,p∈la++l1->ltB p.1 key=true:=λ p hq=>by
   cases r:ltB p.1 key
   ·have:=J9 (a:=key) r (H.low p hq);rw[hkk] at this;simp at this
   ·rfl
  have hhi:∀p,p∈lb->ltB key p.1=true:=λ p hq=>by
   cases hx:ks[i+1]? with
   | none=>
    have:=List.getElem?_eq_none_iff.1 hx;rw[H.last (by omega)] at hq;simp at hq
   | some x=>
    have h1:=(H.next x hx).2 p hq;have h2:ltB key x=true:=Ar5 hp (by rw[hch];exact hx);cases r:ltB key p.1
    ·have:=J9 (a:=p.1) r h2;rw[h1] at this;simp at this
    ·rfl
  have hh2:K7 g M ((a :: (Sa++S1))++(S2++Sb)):=by have:=hh;rw[H.eS] at this;simpa using this
  have hd:N7 l key=(la++l1)++(N7 l2 key++lb):=by rw[H.el,← List.append_assoc];exact Bo8 hlo hhi
  refine⟨ks,ds,c2,l2,S2,hok,hc,hpos,by rw[hch];exact H.d2,H.p2,hh2.part,by rw[H.el,← List.append_assoc];exact Ab6 hlo hhi,?_,λ e=>by omega,?_⟩
  ·rintro M1 k2 v2 d2 ⟨T2,o2,hm,hlo2,henc,hS⟩ hle;have ho:=hS.out hh2;have hna:a∉S2/\g.cur M1 a=g.cur M a:=ho a (.inl (by simp));have q2:=o2.close (root:=false) H.p2.mem.2 (henc hle) (by simpa using hle) hm;have q1:=H.p1.keep (C':=g.cur M1) (λ s q=>(ho s (.inl (by simp[q]))).2);have:=H.share (λ k l S=>E3 (g.cur M1) false d k l S) k0 l1 S1 (N7 l2 key) (c2 :: T2) (λ k l S hP hs=>hP.keep λ s q=>by
    rcases hs s q with r | r
    ·exact(ho s (.inl (by simp[r]))).2
    ·exact(ho s (.inr (by simp[r]))).2) q1 q2 q1.ne q2.ne (λ p q=>H.low p (by simp[q])) (λ p q=>H.high p (by simp[Y4 q])) (λ p q=>by
     rcases List.mem_append.1 q with r | r
     ·simp[r]
     ·simp[Y4 r])
   rw[Bp4 H.k] at this;refine⟨Sa++((S1++(c2 :: T2))++Sb),⟨rfl,hok.k,hok.d,hp,by rw[hd];simpa using this.1⟩,hok.most,by show(if root then 1 else 6)<=_;omega,λ _=>by rw[hna.2];exact hc,?_⟩;have:=(hS.lift hh2).mono (show 3*d+1<=3*(d+1)+1 by omega);have e:(a :: (Sa++S1))++(S2++Sb)=a :: (Sa++(S1++(S2++Sb))):=by simp
   rw[H.eS,← e];exact this.perm (by simp)
  ·intro i' e M1 k2 v2 d2 hD;obtain rfl:i=i':=by omega
   obtain⟨T2,o2,hm,hlo2,henc,hS⟩:=hD;have ho:=hS.out hh2;obtain⟨k1,v1,d1,T1,e1,hc1,o1,henc1,hle1,hm1⟩:=H.p1.open;have hk1:∀s,s∈S1->g.cur M1 s=g.cur M s:=λ s q=>(ho s (.inl (by simp[q]))).2;have o1':=o1.keep (C':=g.cur M1) (λ s q=>hk1 s (by rw[e1];simp[q]));have hlow1:=hh2.low c1 (by simp[H.p1.mem.1]);refine⟨k0,c1,k1,v1,d1,⟨hc1,hlow1.2,by rw[hk1 c1 H.p1.mem.1];exact henc1,hm1,_,_,o1'⟩,la,l1,l2,lb,Sa,S1,S2,Sb,_,T1,_,T2,ha,hh,hp,hok,⟨_,rfl,H⟩,o1',o2,λ p q=>q,λ p q=>Y4 q,by rw[hd];simp,λ s q=>?_,?_,hm1,hm,.inl (by simpa using hle1),Bf0 (by simpa using hle1),Bx0 hlo2,hn⟩
   ·rcases q with q | q
    ·exact(ho s (.inl (by simp[q]))).2
    ·exact(ho s (.inr (by simp[q]))).2
   ·have:=hS.lift hh2;have e:(a :: (Sa++S1))++(S2++Sb)=a :: (Sa++(S1++(S2++Sb))):=by simp
    rw[H.eS,← e];rw[← e1];exact this.perm (by simp)
def Al1(g:Sg)(M M':Nat->Option Sec)(r':Nat)(l:List B0)(S:List Nat)(key:Bs)(m:Nat):Prop:=∃S',Ae2 (g.cur M') r' (N7 l key) S'/\M7 g M M' S S' m
theorem E3.root{C:Nat->Sec}{d a:Nat}{l:List B0}{S:List Nat}(h:E3 C false d a l S):E3 C true d a l S:=by
 obtain⟨ks,vs,ds,S',rfl,ha,ho,hc,hl,hm⟩:=h.open;refine ho.close ha hc ?_ hm;cases d<;>(simp[N9] at hl ⊢;omega)
section
variable {g:Sg} {M M1:Nat->Option Sec} {d r:Nat} {l:List B0} {S:List Nat} {key:Bs} {ks vs:List Bs} {ds:List Nat}
theorem Bp5(h:W4 g M M1 true d r l S key ks vs ds)(hh:K7 g M S)(hr:r<4294967296)(hl:N9 d<=ks.length):Al1 g M M1 r l S key (3*d+2):=by
 obtain⟨S',ho,hm,_,hc,hS⟩:=h;have:=(hh.low r (hS.sub r (by simp))).1;exact⟨_,.inr ⟨by omega,d,ho.close hr (hc hl) (by cases d<;>(simp[N9] at hl ⊢;omega)) hm⟩,hS.mono (by omega)⟩
theorem Bc7(h:W4 g M M1 true d r l S key ks vs ds)(hh:K7 g M S)(hr:r<4294967296)(hl:0<ks.length)(ho1:MOk M1 g.h):Al1 g M (F1 M1 r (Aj7 d ks vs ds)) r l S key (3*d+2):=by
 obtain⟨S',ho,hm,_,hc,hS⟩:=h;have hlow:=hh.low r (hS.sub r (by simp));refine⟨_,.inr ⟨by omega,d,(ho.keep λ s q=>G6 _ _ _ ?_).close hr (J5 _ _ _ _) (by simp;omega) hm⟩,(hS.put ho1 (by simp) hlow.1 hlow.2 _).mono (by omega)⟩;rintro rfl;exact(List.nodup_cons.1 hS.nd).1 q
theorem Bi8(h:W4 g M M1 true 0 r l S key [] vs ds)(hh:K7 g M S)(ho1:MOk M1 g.h)(hl1:(g.cur M1 1).length=512)(h1:1<g.h)(h2:g.h<=4096):Al1 g M (Aa6 g M1 r) 0 l S key (3*0+2):=by
 obtain⟨S',ho,hm,_,hc,hS⟩:=h;obtain⟨rfl,_,e,_⟩:=ho;exact⟨[],.inl ⟨rfl,by cases q:N7 l key with | nil=>rfl | cons a b=>rw[q] at e;simp at e,rfl⟩,((hS.free hh ho1 hl1 h1 h2).mono (by omega))⟩
theorem Bc8(h:W4 g M M1 true (d+1) r l S key [] vs ds)(hh:K7 g M S)(ho1:MOk M1 g.h)(hl1:(g.cur M1 1).length=512)(h1:1<g.h)(h2:g.h<=4096):∃c,ds=[c]/\c<4294967296/\Al1 g M (Aa6 g M1 r) c l S key (3*(d+1)+2):=by
 obtain⟨S',ho,hm,_,hc,hS⟩:=h;have hf:=hS.free hh ho1 hl1 h1 h2;obtain⟨rfl,_,_,_,hk⟩:=ho;generalize hq:N7 l key=L at hk;cases hk with
 | one hk=>
  have hm1:=hk.mem;have h4:=hh.low _ (hf.sub _ hm1.1);refine⟨_,rfl,hm1.2,_,.inr ⟨by omega,d,?_⟩,hf.mono (by omega)⟩;rw[hq];exact hk.root.keep λ s q=>Ap4 _ _ (by have:=(hh.low s (hf.sub s q)).1;omega)
end
end
end Go.Proofs.YtgfbepakonjbnaaGreat
end
